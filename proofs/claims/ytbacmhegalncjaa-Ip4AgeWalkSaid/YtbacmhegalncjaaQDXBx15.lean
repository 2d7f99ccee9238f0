-- printed by a program of this session (wip/xprint), out of the translation; Lean checks it
import Derived.Test.YtbacmhegalncjaaQDXBx0
import Derived.Test.YtbacmhegalncjaaQDXBx6
import Derived.Test.YtbacmhegalncjaaQDXBx7
import Derived.Test.YtbacmhegalncjaaQDXBx14
namespace Go.Proofs.Ytbacmhegalncjaa.XB
open Go.RowKit Go.Proofs.YtbacmhegalncjaaW.PrintWords Go.Proofs.YtbacmhegalncjaaW.PrintLast Go.Proofs.YtbacmhegalncjaaW.PrintMore Go.Proofs.YtbacmhegalncjaaX
theorem zq15_4 {P : Prop} (h : P := by (with_reducible repeat (first | apply Kd.R_alloc | apply Kd.R_drewN | apply Kd.R_drew)); exact HO799.out) : P := h
theorem zq15_3 {P : Prop} (h : P := by (with_reducible repeat (first | apply Kd.R_alloc | apply Kd.R_drewN | apply Kd.R_drew)); exact HO796.out) : P := h
theorem zq15_2 {P : Prop} (h : P := by (with_reducible repeat (first | apply Kd.R_alloc | apply Kd.R_drewN | apply Kd.R_drew)); exact HO793.out) : P := h
theorem zq15_1 {P : Prop} (h : P := by first | (with_reducible exact BK781.out) | (with_reducible exact blk_drewN BK781.out _) | (with_reducible exact blk_drew BK781.out) | ((with_reducible repeat (first | refine blk_drewN ?_ _ | refine blk_drew ?_ | refine blk_alloc ?_ _)); exact BK781.out)) : P := h
theorem zq15_0 {P : Prop} (h : P := by repeat (first | (with_reducible first | exact HB.out | apply below_alloc | apply pw_below_drewN | apply below_drew1 | refine below_set ?_ GE781.out) | exact HB.out)) : P := h
attribute [local go_sem] max2_int min2_int max_two min_two max_three min_three max_four min_four   -- for this text's walks alone
set_option linter.unusedVariables false
set_option linter.unusedSimpArgs false

/-! ### weftlaw3_Ip4AgeWalk: function 10 -/
mutual
def weftlaw3_Ip4AgeWalk.j0 : Nat → Int → Bool → Int → Int → Bool → Bool → Int → Int → Int → Int → Int → List Int → List Int → Option (Bool)
  | 0, _, _, _, _, _, _, _, _, _, _, _, _, _ => none
  | k + 1, x1, x12, x782000, x782001, x782002, x782003, x782004, x782005, x782006, x782007, x782008, x782009, x782010 => if x12 = true then (weftlaw3_Ip4AgeWalk.j1 k 300 x782000 x782001 x782002 x782003 x782004 x782005 x782006 x782007 x782008 x782009 x782010) else (weftlaw3_Ip4AgeWalk.j1 k x1 x782000 x782001 x782002 x782003 x782004 x782005 x782006 x782007 x782008 x782009 x782010)
def weftlaw3_Ip4AgeWalk.j1 : Nat → Int → Int → Int → Bool → Bool → Int → Int → Int → Int → Int → List Int → List Int → Option (Bool)
  | 0, _, _, _, _, _, _, _, _, _, _, _, _ => none
  | k + 1, x1, x782000, x782001, x782002, x782003, x782004, x782005, x782006, x782007, x782008, x782009, x782010 => (weftlaw3_small.f).bind fun bt782 => ((ip4_Build.f k bt782.1 bt782.2.1 bt782.2.2.1 bt782.2.2.2.1 bt782.2.2.2.2.1 bt782.2.2.2.2.2.1 bt782.2.2.2.2.2.2.1 bt782.2.2.2.2.2.2.2.1 bt782.2.2.2.2.2.2.2.2.1 bt782.2.2.2.2.2.2.2.2.2.1 bt782.2.2.2.2.2.2.2.2.2.2).bind fun bt797 => (if bt797.2 = 0 then ((weftlaw3_small.f).bind fun bt801 => ((weftlaw3_walk.f k bt801.1 bt801.2.1 bt801.2.2.1 bt801.2.2.2.1 bt801.2.2.2.2.1 bt801.2.2.2.2.2.1 bt801.2.2.2.2.2.2.1 bt801.2.2.2.2.2.2.2.1 bt801.2.2.2.2.2.2.2.2.1 bt801.2.2.2.2.2.2.2.2.2.1 bt801.2.2.2.2.2.2.2.2.2.2 12).bind fun t816 => (if t816 = true then ((weftlaw3_walk.f k x782000 x782001 x782002 x782003 x782004 x782005 x782006 x782007 x782008 x782009 x782010 x1).bind fun t817 => (some t817)) else (some false)))) else (some false)))
end
def weftlaw3_Ip4AgeWalk.f (k : Nat) (a0_0 : Int) (a0_1 : Int) (a0_2 : Bool) (a0_3 : Bool) (a0_4 : Int) (a0_5 : Int) (a0_6 : Int) (a0_7 : Int) (a0_8 : Int) (l0_9 : List Int) (l0_10 : List Int) (a1 : Int) : Option (Bool) := if a1 < 0 then (weftlaw3_Ip4AgeWalk.j0 k a1 true a0_0 a0_1 a0_2 a0_3 a0_4 a0_5 a0_6 a0_7 a0_8 l0_9 l0_10) else (weftlaw3_Ip4AgeWalk.j0 k a1 (decide (a1 > 300)) a0_0 a0_1 a0_2 a0_3 a0_4 a0_5 a0_6 a0_7 a0_8 l0_9 l0_10)
set_option maxHeartbeats 8000000 in
set_option maxRecDepth 100000 in
theorem weftlaw3_Ip4AgeWalk.calls (k : Nat) (a0_0 : Int) (a0_1 : Int) (a0_2 : Bool) (a0_3 : Bool) (a0_4 : Int) (a0_5 : Int) (a0_6 : Int) (a0_7 : Int) (a0_8 : Int) (A0_9 : Option Addr) (c0_9 : Nat) (l0_9 : List Int) (A0_10 : Option Addr) (c0_10 : Nat) (l0_10 : List Int) (a1 : Int) (r : Bool) (w : World) (hr0_9 : Kd.C (Kd.int .u8) w A0_9 l0_9.length l0_9) (hc0_9 : l0_9.length ≤ c0_9) (hr0_10 : Kd.C (Kd.int .u8) w A0_10 l0_10.length l0_10) (hc0_10 : l0_10.length ≤ c0_10) (h : weftlaw3_Ip4AgeWalk.f k a0_0 a0_1 a0_2 a0_3 a0_4 a0_5 a0_6 a0_7 a0_8 l0_9 l0_10 a1 = some r) :
    Calls Try.prog 10 #[.agg #[.int .u8 a0_0, .int .u16 a0_1, .bool a0_2, .bool a0_3, .int .i64 a0_4, .int .u8 a0_5, .int .u8 a0_6, .int .u32 a0_7, .int .u32 a0_8, .slice A0_9 l0_9.length c0_9, .slice A0_10 l0_10.length c0_10], .int .i64 a1] w fun e w' => e = .returned (.bool r) ∧ Below w.heap.size w w' := by
  have hu43 := Try.underlying43
  have HR0_9 := Aside0.mk hr0_9
  have HC0_9 := Aside0.mk hc0_9
  clear hr0_9 hc0_9
  have HR0_10 := Aside0.mk hr0_10
  have HC0_10 := Aside0.mk hc0_10
  clear hr0_10 hc0_10
  have HB := Aside0.mk (Below.refl w.heap.size w)
  have H : (if a1 < 0 then (weftlaw3_Ip4AgeWalk.j0 k a1 true a0_0 a0_1 a0_2 a0_3 a0_4 a0_5 a0_6 a0_7 a0_8 l0_9 l0_10) else (weftlaw3_Ip4AgeWalk.j0 k a1 (decide (a1 > 300)) a0_0 a0_1 a0_2 a0_3 a0_4 a0_5 a0_6 a0_7 a0_8 l0_9 l0_10)) = some r := h
  clear h
  have HC3 := Aside0.mk H
  clear H
  go_enter Try.func10, Try.ntmps10
  go_upto_region 1 with (first | ((with_reducible refine gate_dst (N := 2) rfl ?_); refine box_event ?hg (N := 2) ?hd (cs := #[.int .u8 a0_0, .int .u16 a0_1, .bool a0_2, .bool a0_3, .int .i64 a0_4, .int .u8 a0_5, .int .u8 a0_6, .int .u32 a0_7, .int .u32 a0_8, .slice A0_9 l0_9.length c0_9, .slice A0_10 l0_10.length c0_10]) (t := 43) ?hr ?_; (case hd => rfl); (case hg => rfl); (case hr => first | (go_simp; done) | (go_simp; rfl)); intro gb781 hg w4 hbox hb; have n0_ := Aside0.mk (below_step (by repeat (first | (with_reducible first | exact HB.out | apply below_alloc | apply pw_below_drewN | apply below_drew1) | exact HB.out)) hb); have n1_ := Aside0.mk (hbox); have n2_ := Aside0.mk ((by rw [hg]; exact (below_size (by repeat (first | (with_reducible first | exact HB.out | apply below_alloc | apply pw_below_drewN | apply below_drew1) | exact HB.out))) : w.heap.size ≤ gb781)); have n3_ := Aside0.mk ((by rw [hg]; exact (below_size (by repeat (first | (with_reducible first | exact HB.out | apply below_alloc | apply pw_below_drewN | apply below_drew1) | exact HB.out))) : w.heap.size ≤ gb781)); clear HB; have HB := n0_; have BK781 := n1_; have GW781 := n2_; have GE781 := n3_; clear n0_ n1_ n2_ n3_; clear hb hbox hg))
  (try simp only [Act.put, List.setIfInBounds_toArray, List.set_cons_zero, List.set_cons_succ])
  go_cut [12] (fun v12 wc => ∃ (kq : Nat) (x12_2 : Bool), v12 = .bool x12_2 ∧ Aside0 (weftlaw3_Ip4AgeWalk.j0 kq a1 x12_2 a0_0 a0_1 a0_2 a0_3 a0_4 a0_5 a0_6 a0_7 a0_8 l0_9 l0_10 = some r) ∧ Aside0 (kq ≤ k) ∧ Aside0 (wc.heap[gb781]? = some (.cells #[.int .u8 a0_0, .int .u16 a0_1, .bool a0_2, .bool a0_3, .int .i64 a0_4, .int .u8 a0_5, .int .u8 a0_6, .int .u32 a0_7, .int .u32 a0_8, (.slice A0_9 l0_9.length c0_9), (.slice A0_10 l0_10.length c0_10)] 43 (0, 0))) ∧ Aside0 (Below w.heap.size w wc))
  case first =>
    have H := HC3.out
    clear HC3
    by_cases c5 : a1 < 0
    · rw [if_pos c5] at H
      have c5b0 : decide (a1 < 0) = true := decide_eq_true c5
      clear c5
      (first | rw [c5b0] | (simp only [i64_w, i32_w]; rw [c5b0]) | skip)
      have H' := Aside0.mk H
      clear H
      go_wp2
      go_meet
      case rel => exact ⟨_, (true), (by first | rfl | (simp; done) | (simp [*]; done)), H', ⟨by first | omega | exact Nat.le_refl _⟩, ⟨by first | (with_reducible exact BK781.out) | (with_reducible exact blk_drewN BK781.out _) | (with_reducible exact blk_drew BK781.out) | ((with_reducible repeat (first | refine blk_drewN ?_ _ | refine blk_drew ?_ | refine blk_alloc ?_ _)); exact BK781.out)⟩, ⟨by repeat (first | (with_reducible first | exact HB.out | apply below_alloc | apply pw_below_drewN | apply below_drew1 | refine below_set ?_ GE781.out) | exact HB.out)⟩⟩
    · rw [if_neg c5] at H
      have c5b0 : decide (a1 < 0) = false := decide_eq_false c5
      clear c5
      (first | rw [c5b0] | (simp only [i64_w, i32_w]; rw [c5b0]) | skip)
      have H' := Aside0.mk H
      clear H
      go_wp2
      go_meet
      case rel => exact ⟨_, (decide (a1 > 300)), (by first | rfl | (simp; done) | (simp [*]; done)), H', ⟨by first | omega | exact Nat.le_refl _⟩, ⟨by first | (with_reducible exact BK781.out) | (with_reducible exact blk_drewN BK781.out _) | (with_reducible exact blk_drew BK781.out) | ((with_reducible repeat (first | refine blk_drewN ?_ _ | refine blk_drew ?_ | refine blk_alloc ?_ _)); exact BK781.out)⟩, ⟨by repeat (first | (with_reducible first | exact HB.out | apply below_alloc | apply pw_below_drewN | apply below_drew1 | refine below_set ?_ GE781.out) | exact HB.out)⟩⟩
  case rest =>
    clear HC3
    try clear c1
    try clear p2
    try clear p4
    try clear c5
    try clear c5b0
    obtain ⟨kq, x12_2, rfl, HA, HJ2, BK781, HB⟩ := hcut
    cases kq with
    | zero => exact absurd HA.out (by simp [weftlaw3_Ip4AgeWalk.j0])
    | succ kj2 =>
      have H := HA.out
      clear HA
      simp only [weftlaw3_Ip4AgeWalk.j0] at H
      have HC6 := Aside0.mk H
      clear H
      go_upto_if 12 with (fail)
      go_cut [1] (fun v1 wc => ∃ (kq : Nat) (x1_5 : Int), v1 = .int .i64 x1_5 ∧ Aside0 (weftlaw3_Ip4AgeWalk.j1 kq x1_5 a0_0 a0_1 a0_2 a0_3 a0_4 a0_5 a0_6 a0_7 a0_8 l0_9 l0_10 = some r) ∧ Aside0 (kq ≤ kj2) ∧ Aside0 (wc.heap[gb781]? = some (.cells #[.int .u8 a0_0, .int .u16 a0_1, .bool a0_2, .bool a0_3, .int .i64 a0_4, .int .u8 a0_5, .int .u8 a0_6, .int .u32 a0_7, .int .u32 a0_8, (.slice A0_9 l0_9.length c0_9), (.slice A0_10 l0_10.length c0_10)] 43 (0, 0))) ∧ Aside0 (Below w.heap.size w wc))
      case first =>
        have H := HC6.out
        clear HC6
        by_cases c7 : x12_2 = true
        · subst c7
          have H1 : (weftlaw3_Ip4AgeWalk.j1 kj2 300 a0_0 a0_1 a0_2 a0_3 a0_4 a0_5 a0_6 a0_7 a0_8 l0_9 l0_10) = some r := by rw [if_pos rfl] at H; exact H
          clear H
          have H := H1
          clear H1
          have H' := Aside0.mk H
          clear H
          go_wp2
          go_meet
          case rel => exact ⟨_, (300), (by first | rfl | (simp; done) | (simp [*]; done)), H', ⟨by have := HJ2.out; first | omega | exact Nat.le_refl _⟩, ⟨by first | (with_reducible exact BK781.out) | (with_reducible exact blk_drewN BK781.out _) | (with_reducible exact blk_drew BK781.out) | ((with_reducible repeat (first | refine blk_drewN ?_ _ | refine blk_drew ?_ | refine blk_alloc ?_ _)); exact BK781.out)⟩, ⟨by repeat (first | (with_reducible first | exact HB.out | apply below_alloc | apply pw_below_drewN | apply below_drew1 | refine below_set ?_ GE781.out) | exact HB.out)⟩⟩
        · replace c7 := Bool.eq_false_iff.mpr c7
          subst c7
          have H1 : (weftlaw3_Ip4AgeWalk.j1 kj2 a1 a0_0 a0_1 a0_2 a0_3 a0_4 a0_5 a0_6 a0_7 a0_8 l0_9 l0_10) = some r := by rw [if_neg (show ¬ (false = true) by decide)] at H; exact H
          clear H
          have H := H1
          clear H1
          have H' := Aside0.mk H
          clear H
          go_wp2
          go_meet
          case rel => exact ⟨_, (a1), (by first | rfl | (simp; done) | (simp [*]; done)), H', ⟨by have := HJ2.out; first | omega | exact Nat.le_refl _⟩, ⟨by first | (with_reducible exact BK781.out) | (with_reducible exact blk_drewN BK781.out _) | (with_reducible exact blk_drew BK781.out) | ((with_reducible repeat (first | refine blk_drewN ?_ _ | refine blk_drew ?_ | refine blk_alloc ?_ _)); exact BK781.out)⟩, ⟨by repeat (first | (with_reducible first | exact HB.out | apply below_alloc | apply pw_below_drewN | apply below_drew1 | refine below_set ?_ GE781.out) | exact HB.out)⟩⟩
      case rest =>
        clear HC6
        try clear c1
        try clear p2
        try clear p4
        try clear c5
        try clear c5b0
        try clear c7
        try clear p2
        try clear p4
        obtain ⟨kq, x1_5, rfl, HA, HJ5, BK781, HB⟩ := hcut
        cases kq with
        | zero => exact absurd HA.out (by simp [weftlaw3_Ip4AgeWalk.j1])
        | succ kj5 =>
          have H := HA.out
          clear HA
          simp only [weftlaw3_Ip4AgeWalk.j1] at H
          replace H := Option.bind_eq_some_iff.mp H
          obtain ⟨⟨t782, t783, t784, t785, t786, t787, t788, t789, t790, t791, t794⟩, A80, H⟩ := H
          replace H : ((ip4_Build.f kj5 t782 t783 t784 t785 t786 t787 t788 t789 t790 t791 t794).bind fun bt797 => (if bt797.2 = 0 then ((weftlaw3_small.f).bind fun bt801 => ((weftlaw3_walk.f kj5 bt801.1 bt801.2.1 bt801.2.2.1 bt801.2.2.2.1 bt801.2.2.2.2.1 bt801.2.2.2.2.2.1 bt801.2.2.2.2.2.2.1 bt801.2.2.2.2.2.2.2.1 bt801.2.2.2.2.2.2.2.2.1 bt801.2.2.2.2.2.2.2.2.2.1 bt801.2.2.2.2.2.2.2.2.2.2 12).bind fun t816 => (if t816 = true then ((weftlaw3_walk.f kj5 a0_0 a0_1 a0_2 a0_3 a0_4 a0_5 a0_6 a0_7 a0_8 l0_9 l0_10 x1_5).bind fun t817 => (some t817)) else (some false)))) else (some false))) = some r := H
          have A8 := Aside0.mk A80
          clear A80
          replace H := Option.bind_eq_some_iff.mp H
          obtain ⟨⟨t797, t800⟩, A90, H⟩ := H
          replace H : (if t800 = 0 then ((weftlaw3_small.f).bind fun bt801 => ((weftlaw3_walk.f kj5 bt801.1 bt801.2.1 bt801.2.2.1 bt801.2.2.2.1 bt801.2.2.2.2.1 bt801.2.2.2.2.2.1 bt801.2.2.2.2.2.2.1 bt801.2.2.2.2.2.2.2.1 bt801.2.2.2.2.2.2.2.2.1 bt801.2.2.2.2.2.2.2.2.2.1 bt801.2.2.2.2.2.2.2.2.2.2 12).bind fun t816 => (if t816 = true then ((weftlaw3_walk.f kj5 a0_0 a0_1 a0_2 a0_3 a0_4 a0_5 a0_6 a0_7 a0_8 l0_9 l0_10 x1_5).bind fun t817 => (some t817)) else (some false)))) else (some false)) = some r := H
          have A9 := Aside0.mk A90
          clear A90
          by_cases c10 : t800 = 0
          · rw [if_pos c10] at H
            have c10b0 : (t800 == 0) = true := beq_iff_eq.mpr c10
            have c10b1 : (t800 != 0) = false := bne_eq_false_iff_eq.mpr c10
            clear c10
            replace H := Option.bind_eq_some_iff.mp H
            obtain ⟨⟨t801, t802, t803, t804, t805, t806, t807, t808, t809, t810, t813⟩, A110, H⟩ := H
            replace H : ((weftlaw3_walk.f kj5 t801 t802 t803 t804 t805 t806 t807 t808 t809 t810 t813 12).bind fun t816 => (if t816 = true then ((weftlaw3_walk.f kj5 a0_0 a0_1 a0_2 a0_3 a0_4 a0_5 a0_6 a0_7 a0_8 l0_9 l0_10 x1_5).bind fun t817 => (some t817)) else (some false))) = some r := H
            have A11 := Aside0.mk A110
            clear A110
            replace H := Option.bind_eq_some_iff.mp H
            obtain ⟨t816, A120, H⟩ := H
            replace H : (if t816 = true then ((weftlaw3_walk.f kj5 a0_0 a0_1 a0_2 a0_3 a0_4 a0_5 a0_6 a0_7 a0_8 l0_9 l0_10 x1_5).bind fun t817 => (some t817)) else (some false)) = some r := H
            have A12 := Aside0.mk A120
            clear A120
            by_cases c13 : t816 = true
            · subst c13
              have H1 : ((weftlaw3_walk.f kj5 a0_0 a0_1 a0_2 a0_3 a0_4 a0_5 a0_6 a0_7 a0_8 l0_9 l0_10 x1_5).bind fun t817 => (some t817)) = some r := by rw [if_pos rfl] at H; exact H
              clear H
              have H := H1
              clear H1
              replace H := Option.bind_eq_some_iff.mp H
              obtain ⟨t817, A140, H⟩ := H
              replace H : (some t817) = some r := H
              have A14 := Aside0.mk A140
              clear A140
              obtain rfl := Option.some.inj H
              go_wp2_with (first | ((with_reducible refine gate_callee (f := 24) rfl ?_); refine goesL_ (some 14) rfl rfl Try.func24 (by kernel_rfl) rfl #[] rfl (by (try simp only [List.map_toArray, List.map_cons, List.map_nil]); first | done | rfl | (simp only [List.length_drop, List.length_take]; rfl)) ?_; (with_reducible refine (weftlaw3_small.calls  t782 t783 t784 t785 t786 t787 t788 t789 t790 t791 t794 _ A8.out).mono ?_); rintro e w15 ⟨v792, v795, rfl, ho0, ho1, hb⟩; refine ⟨_, rfl, ?_⟩; have n0_ := Aside0.mk (Kd.R_lower ho0 (below_size zq15_0)); have n1_ := Aside0.mk (Kd.R_lower ho1 (below_size zq15_0)); have n2_ := Aside0.mk (blk_below (g := gb781) (o := .cells #[.int .u8 a0_0, .int .u16 a0_1, .bool a0_2, .bool a0_3, .int .i64 a0_4, .int .u8 a0_5, .int .u8 a0_6, .int .u32 a0_7, .int .u32 a0_8, .slice A0_9 l0_9.length c0_9, .slice A0_10 l0_10.length c0_10] 43 (0, 0)) zq15_1 hb); have n3_ := Aside0.mk (below_step zq15_0 hb); clear BK781; clear HB; have HO793 := n0_; have HO796 := n1_; have BK781 := n2_; have HB := n3_; clear n0_ n1_ n2_ n3_; (try clear hb); (try clear hb2); (try clear hk); (try clear hi); (try clear ho0); (try clear ho1); obtain ⟨Ao16, co16, eo16⟩ := Kd.R_slice HO793.out; subst eo16; obtain ⟨Ao17, co17, eo17⟩ := Kd.R_slice HO796.out; subst eo17) | ((with_reducible refine gate_callee (f := 22) rfl ?_); refine goesL_ (some 15) rfl rfl Try.func22 (by kernel_rfl) rfl #[.agg #[.int .u8 t782, .int .u16 t783, .bool t784, .bool t785, .int .i64 t786, .int .u8 t787, .int .u8 t788, .int .u32 t789, .int .u32 t790, .slice Ao16 t791.length co16, .slice Ao17 t794.length co17]] rfl (by (try simp only [List.map_toArray, List.map_cons, List.map_nil]); first | done | rfl | (simp only [List.length_drop, List.length_take]; rfl)) ?_; (with_reducible refine (ip4_Build.calls kj5 t782 t783 t784 t785 t786 t787 t788 t789 t790 _ _ t791 _ _ t794 t797 t800 _ ?side1 ?side2 ?side3 ?side4 A9.out).mono ?_); (case side1 => repeat (first | exact (Kd.R_reads' HO793.out).2.2 | (with_reducible refine Kd.C_alloc ?_ _) | (with_reducible refine Kd.C_drewN ?_ _) | (with_reducible refine Kd.C_drew ?_))); (case side2 => exact (Kd.R_reads' HO793.out).2.1); (case side3 => repeat (first | exact (Kd.R_reads' HO796.out).2.2 | (with_reducible refine Kd.C_alloc ?_ _) | (with_reducible refine Kd.C_drewN ?_ _) | (with_reducible refine Kd.C_drew ?_))); (case side4 => exact (Kd.R_reads' HO796.out).2.1); rintro e w18 ⟨v798, rfl, ho0, hb⟩; refine ⟨_, rfl, ?_⟩; have n0_ := Aside0.mk (Kd.R_elder' zq15_2 (Kd.R_base ho0) hb); have n1_ := Aside0.mk (Kd.R_elder' zq15_3 (Kd.R_base ho0) hb); have n2_ := Aside0.mk (Kd.R_lower (Kd.R_new' (Kd.R_new' ho0 (Kd.R_lt zq15_2)) (Kd.R_lt zq15_3)) (below_size zq15_0)); have n3_ := Aside0.mk (blk_below (g := gb781) (o := .cells #[.int .u8 a0_0, .int .u16 a0_1, .bool a0_2, .bool a0_3, .int .i64 a0_4, .int .u8 a0_5, .int .u8 a0_6, .int .u32 a0_7, .int .u32 a0_8, .slice A0_9 l0_9.length c0_9, .slice A0_10 l0_10.length c0_10] 43 (0, 0)) zq15_1 hb); have n4_ := Aside0.mk (below_step zq15_0 hb); clear HO793; clear HO796; clear BK781; clear HB; have HO793 := n0_; have HO796 := n1_; have HO799 := n2_; have BK781 := n3_; have HB := n4_; clear n0_ n1_ n2_ n3_ n4_; (try clear hb); (try clear hb2); (try clear hk); (try clear hi); (try clear ho0)) | (go_at_call 24; (with_reducible refine (weftlaw3_small.calls  t801 t802 t803 t804 t805 t806 t807 t808 t809 t810 t813 _ A11.out).mono ?_); rintro e w19 ⟨v811, v814, rfl, ho0, ho1, hb⟩; have n0_ := Aside0.mk (Kd.R_mono (Kd.R_told (Kd.R_told (Kd.R_old zq15_2 hb) (Kd.R_base ho0)) (Kd.R_base ho1)) (fun _ h_ => h_.1)); have n1_ := Aside0.mk (Kd.R_mono (Kd.R_told (Kd.R_told (Kd.R_old zq15_3 hb) (Kd.R_base ho0)) (Kd.R_base ho1)) (fun _ h_ => h_.1)); have n2_ := Aside0.mk (Kd.R_mono (Kd.R_told (Kd.R_told (Kd.R_old zq15_4 hb) (Kd.R_base ho0)) (Kd.R_base ho1)) (fun _ h_ => h_.1)); have n3_ := Aside0.mk (Kd.R_lower (Kd.R_new' (Kd.R_new' (Kd.R_new' ho0 (Kd.R_lt zq15_2)) (Kd.R_lt zq15_3)) (Kd.R_lt zq15_4)) (below_size zq15_0)); have n4_ := Aside0.mk (Kd.R_lower (Kd.R_new' (Kd.R_new' (Kd.R_new' ho1 (Kd.R_lt zq15_2)) (Kd.R_lt zq15_3)) (Kd.R_lt zq15_4)) (below_size zq15_0)); have n5_ := Aside0.mk (blk_below (g := gb781) (o := .cells #[.int .u8 a0_0, .int .u16 a0_1, .bool a0_2, .bool a0_3, .int .i64 a0_4, .int .u8 a0_5, .int .u8 a0_6, .int .u32 a0_7, .int .u32 a0_8, .slice A0_9 l0_9.length c0_9, .slice A0_10 l0_10.length c0_10] 43 (0, 0)) zq15_1 hb); have n6_ := Aside0.mk (below_step zq15_0 hb); clear HO793; clear HO796; clear HO799; clear BK781; clear HB; have HO793 := n0_; have HO796 := n1_; have HO799 := n2_; have HO812 := n3_; have HO815 := n4_; have BK781 := n5_; have HB := n6_; clear n0_ n1_ n2_ n3_ n4_ n5_ n6_; (try clear hb); (try clear hb2); (try clear hk); (try clear hi); (try clear ho0); (try clear ho1); obtain ⟨Ao20, co20, eo20⟩ := Kd.R_slice HO812.out; subst eo20; obtain ⟨Ao21, co21, eo21⟩ := Kd.R_slice HO815.out; subst eo21) | (go_at_call 29; (with_reducible refine (weftlaw3_walk.calls kj5 t801 t802 t803 t804 t805 t806 t807 t808 t809 _ _ t810 _ _ t813 12 true _ ?side1 ?side2 ?side3 ?side4 A12.out).mono ?_); (case side1 => repeat (first | exact (Kd.R_reads' HO812.out).2.2 | (with_reducible refine Kd.C_alloc ?_ _) | (with_reducible refine Kd.C_drewN ?_ _) | (with_reducible refine Kd.C_drew ?_))); (case side2 => exact (Kd.R_reads' HO812.out).2.1); (case side3 => repeat (first | exact (Kd.R_reads' HO815.out).2.2 | (with_reducible refine Kd.C_alloc ?_ _) | (with_reducible refine Kd.C_drewN ?_ _) | (with_reducible refine Kd.C_drew ?_))); (case side4 => exact (Kd.R_reads' HO815.out).2.1); rintro e w22 ⟨rfl, hb⟩; have n0_ := Aside0.mk (Kd.R_below zq15_2 hb); have n1_ := Aside0.mk (Kd.R_below zq15_3 hb); have n2_ := Aside0.mk (Kd.R_below zq15_4 hb); have n3_ := Aside0.mk (Kd.R_below (by (with_reducible repeat (first | apply Kd.R_alloc | apply Kd.R_drewN | apply Kd.R_drew)); exact HO812.out) hb); have n4_ := Aside0.mk (Kd.R_below (by (with_reducible repeat (first | apply Kd.R_alloc | apply Kd.R_drewN | apply Kd.R_drew)); exact HO815.out) hb); have n5_ := Aside0.mk (blk_below (g := gb781) (o := .cells #[.int .u8 a0_0, .int .u16 a0_1, .bool a0_2, .bool a0_3, .int .i64 a0_4, .int .u8 a0_5, .int .u8 a0_6, .int .u32 a0_7, .int .u32 a0_8, .slice A0_9 l0_9.length c0_9, .slice A0_10 l0_10.length c0_10] 43 (0, 0)) zq15_1 hb); have n6_ := Aside0.mk (below_step zq15_0 hb); clear HO793; clear HO796; clear HO799; clear HO812; clear HO815; clear BK781; clear HB; have HO793 := n0_; have HO796 := n1_; have HO799 := n2_; have HO812 := n3_; have HO815 := n4_; have BK781 := n5_; have HB := n6_; clear n0_ n1_ n2_ n3_ n4_ n5_ n6_; (try clear hb); (try clear hb2); (try clear hk); (try clear hi); have hcz23_0 : w22.cell? ⟨gb781, 0, none⟩ = some (.int .u8 a0_0) := (blk_cell BK781.out 0).trans rfl; have hcz23_1 : w22.cell? ⟨gb781, 1, none⟩ = some (.int .u16 a0_1) := (blk_cell BK781.out 1).trans rfl; have hcz23_2 : w22.cell? ⟨gb781, 2, none⟩ = some (.bool a0_2) := (blk_cell BK781.out 2).trans rfl; have hcz23_3 : w22.cell? ⟨gb781, 3, none⟩ = some (.bool a0_3) := (blk_cell BK781.out 3).trans rfl; have hcz23_4 : w22.cell? ⟨gb781, 4, none⟩ = some (.int .i64 a0_4) := (blk_cell BK781.out 4).trans rfl; have hcz23_5 : w22.cell? ⟨gb781, 5, none⟩ = some (.int .u8 a0_5) := (blk_cell BK781.out 5).trans rfl; have hcz23_6 : w22.cell? ⟨gb781, 6, none⟩ = some (.int .u8 a0_6) := (blk_cell BK781.out 6).trans rfl; have hcz23_7 : w22.cell? ⟨gb781, 7, none⟩ = some (.int .u32 a0_7) := (blk_cell BK781.out 7).trans rfl; have hcz23_8 : w22.cell? ⟨gb781, 8, none⟩ = some (.int .u32 a0_8) := (blk_cell BK781.out 8).trans rfl; have hcz23_9 : w22.cell? ⟨gb781, 9, none⟩ = some (.slice A0_9 l0_9.length c0_9) := (blk_cell BK781.out 9).trans rfl; have hcz23_10 : w22.cell? ⟨gb781, 10, none⟩ = some (.slice A0_10 l0_10.length c0_10) := (blk_cell BK781.out 10).trans rfl; have hfz23_0 := blk_frozen BK781.out 0; have hfz23_1 := blk_frozen BK781.out 1; have hfz23_2 := blk_frozen BK781.out 2; have hfz23_3 := blk_frozen BK781.out 3; have hfz23_4 := blk_frozen BK781.out 4; have hfz23_5 := blk_frozen BK781.out 5; have hfz23_6 := blk_frozen BK781.out 6; have hfz23_7 := blk_frozen BK781.out 7; have hfz23_8 := blk_frozen BK781.out 8; have hfz23_9 := blk_frozen BK781.out 9; have hfz23_10 := blk_frozen BK781.out 10) | (go_at_call 29; (with_reducible refine (weftlaw3_walk.calls kj5 a0_0 a0_1 a0_2 a0_3 a0_4 a0_5 a0_6 a0_7 a0_8 _ _ l0_9 _ _ l0_10 x1_5 t817 _ ?side1 ?side2 ?side3 ?side4 A14.out).mono ?_); (case side1 => repeat (first | exact (Kd.C_below HR0_9.out HB.out) | (with_reducible refine Kd.C_alloc ?_ _) | (with_reducible refine Kd.C_drewN ?_ _) | (with_reducible refine Kd.C_drew ?_))); (case side2 => exact HC0_9.out); (case side3 => repeat (first | exact (Kd.C_below HR0_10.out HB.out) | (with_reducible refine Kd.C_alloc ?_ _) | (with_reducible refine Kd.C_drewN ?_ _) | (with_reducible refine Kd.C_drew ?_))); (case side4 => exact HC0_10.out); rintro e w24 ⟨rfl, hb⟩; have n0_ := Aside0.mk (Kd.R_below zq15_2 hb); have n1_ := Aside0.mk (Kd.R_below zq15_3 hb); have n2_ := Aside0.mk (Kd.R_below zq15_4 hb); have n3_ := Aside0.mk (Kd.R_below (by (with_reducible repeat (first | apply Kd.R_alloc | apply Kd.R_drewN | apply Kd.R_drew)); exact HO812.out) hb); have n4_ := Aside0.mk (Kd.R_below (by (with_reducible repeat (first | apply Kd.R_alloc | apply Kd.R_drewN | apply Kd.R_drew)); exact HO815.out) hb); have n5_ := Aside0.mk (blk_below (g := gb781) (o := .cells #[.int .u8 a0_0, .int .u16 a0_1, .bool a0_2, .bool a0_3, .int .i64 a0_4, .int .u8 a0_5, .int .u8 a0_6, .int .u32 a0_7, .int .u32 a0_8, .slice A0_9 l0_9.length c0_9, .slice A0_10 l0_10.length c0_10] 43 (0, 0)) zq15_1 hb); have n6_ := Aside0.mk (below_step zq15_0 hb); clear HO793; clear HO796; clear HO799; clear HO812; clear HO815; clear BK781; clear HB; have HO793 := n0_; have HO796 := n1_; have HO799 := n2_; have HO812 := n3_; have HO815 := n4_; have BK781 := n5_; have HB := n6_; clear n0_ n1_ n2_ n3_ n4_ n5_ n6_; (try clear hb); (try clear hb2); (try clear hk); (try clear hi)))
              go_ret
              exact ⟨by first | rfl | (simp [errW_none, errW_some] <;> rfl) | (simp [*, errW_none, errW_some] <;> rfl), by repeat (first | (with_reducible first | exact HB.out | apply below_alloc | apply pw_below_drewN | apply below_drew1 | refine below_set ?_ GE781.out) | exact HB.out)⟩
            · replace c13 := Bool.eq_false_iff.mpr c13
              subst c13
              have H1 : (some false) = some r := by rw [if_neg (show ¬ (false = true) by decide)] at H; exact H
              clear H
              have H := H1
              clear H1
              obtain rfl := Option.some.inj H
              go_wp2_with (first | ((with_reducible refine gate_callee (f := 24) rfl ?_); refine goesL_ (some 14) rfl rfl Try.func24 (by kernel_rfl) rfl #[] rfl (by (try simp only [List.map_toArray, List.map_cons, List.map_nil]); first | done | rfl | (simp only [List.length_drop, List.length_take]; rfl)) ?_; (with_reducible refine (weftlaw3_small.calls  t782 t783 t784 t785 t786 t787 t788 t789 t790 t791 t794 _ A8.out).mono ?_); rintro e w25 ⟨v792, v795, rfl, ho0, ho1, hb⟩; refine ⟨_, rfl, ?_⟩; have n0_ := Aside0.mk (Kd.R_lower ho0 (below_size zq15_0)); have n1_ := Aside0.mk (Kd.R_lower ho1 (below_size zq15_0)); have n2_ := Aside0.mk (blk_below (g := gb781) (o := .cells #[.int .u8 a0_0, .int .u16 a0_1, .bool a0_2, .bool a0_3, .int .i64 a0_4, .int .u8 a0_5, .int .u8 a0_6, .int .u32 a0_7, .int .u32 a0_8, .slice A0_9 l0_9.length c0_9, .slice A0_10 l0_10.length c0_10] 43 (0, 0)) zq15_1 hb); have n3_ := Aside0.mk (below_step zq15_0 hb); clear BK781; clear HB; have HO793 := n0_; have HO796 := n1_; have BK781 := n2_; have HB := n3_; clear n0_ n1_ n2_ n3_; (try clear hb); (try clear hb2); (try clear hk); (try clear hi); (try clear ho0); (try clear ho1); obtain ⟨Ao26, co26, eo26⟩ := Kd.R_slice HO793.out; subst eo26; obtain ⟨Ao27, co27, eo27⟩ := Kd.R_slice HO796.out; subst eo27) | ((with_reducible refine gate_callee (f := 22) rfl ?_); refine goesL_ (some 15) rfl rfl Try.func22 (by kernel_rfl) rfl #[.agg #[.int .u8 t782, .int .u16 t783, .bool t784, .bool t785, .int .i64 t786, .int .u8 t787, .int .u8 t788, .int .u32 t789, .int .u32 t790, .slice Ao26 t791.length co26, .slice Ao27 t794.length co27]] rfl (by (try simp only [List.map_toArray, List.map_cons, List.map_nil]); first | done | rfl | (simp only [List.length_drop, List.length_take]; rfl)) ?_; (with_reducible refine (ip4_Build.calls kj5 t782 t783 t784 t785 t786 t787 t788 t789 t790 _ _ t791 _ _ t794 t797 t800 _ ?side1 ?side2 ?side3 ?side4 A9.out).mono ?_); (case side1 => repeat (first | exact (Kd.R_reads' HO793.out).2.2 | (with_reducible refine Kd.C_alloc ?_ _) | (with_reducible refine Kd.C_drewN ?_ _) | (with_reducible refine Kd.C_drew ?_))); (case side2 => exact (Kd.R_reads' HO793.out).2.1); (case side3 => repeat (first | exact (Kd.R_reads' HO796.out).2.2 | (with_reducible refine Kd.C_alloc ?_ _) | (with_reducible refine Kd.C_drewN ?_ _) | (with_reducible refine Kd.C_drew ?_))); (case side4 => exact (Kd.R_reads' HO796.out).2.1); rintro e w28 ⟨v798, rfl, ho0, hb⟩; refine ⟨_, rfl, ?_⟩; have n0_ := Aside0.mk (Kd.R_elder' zq15_2 (Kd.R_base ho0) hb); have n1_ := Aside0.mk (Kd.R_elder' zq15_3 (Kd.R_base ho0) hb); have n2_ := Aside0.mk (Kd.R_lower (Kd.R_new' (Kd.R_new' ho0 (Kd.R_lt zq15_2)) (Kd.R_lt zq15_3)) (below_size zq15_0)); have n3_ := Aside0.mk (blk_below (g := gb781) (o := .cells #[.int .u8 a0_0, .int .u16 a0_1, .bool a0_2, .bool a0_3, .int .i64 a0_4, .int .u8 a0_5, .int .u8 a0_6, .int .u32 a0_7, .int .u32 a0_8, .slice A0_9 l0_9.length c0_9, .slice A0_10 l0_10.length c0_10] 43 (0, 0)) zq15_1 hb); have n4_ := Aside0.mk (below_step zq15_0 hb); clear HO793; clear HO796; clear BK781; clear HB; have HO793 := n0_; have HO796 := n1_; have HO799 := n2_; have BK781 := n3_; have HB := n4_; clear n0_ n1_ n2_ n3_ n4_; (try clear hb); (try clear hb2); (try clear hk); (try clear hi); (try clear ho0)) | (go_at_call 24; (with_reducible refine (weftlaw3_small.calls  t801 t802 t803 t804 t805 t806 t807 t808 t809 t810 t813 _ A11.out).mono ?_); rintro e w29 ⟨v811, v814, rfl, ho0, ho1, hb⟩; have n0_ := Aside0.mk (Kd.R_mono (Kd.R_told (Kd.R_told (Kd.R_old zq15_2 hb) (Kd.R_base ho0)) (Kd.R_base ho1)) (fun _ h_ => h_.1)); have n1_ := Aside0.mk (Kd.R_mono (Kd.R_told (Kd.R_told (Kd.R_old zq15_3 hb) (Kd.R_base ho0)) (Kd.R_base ho1)) (fun _ h_ => h_.1)); have n2_ := Aside0.mk (Kd.R_mono (Kd.R_told (Kd.R_told (Kd.R_old zq15_4 hb) (Kd.R_base ho0)) (Kd.R_base ho1)) (fun _ h_ => h_.1)); have n3_ := Aside0.mk (Kd.R_lower (Kd.R_new' (Kd.R_new' (Kd.R_new' ho0 (Kd.R_lt zq15_2)) (Kd.R_lt zq15_3)) (Kd.R_lt zq15_4)) (below_size zq15_0)); have n4_ := Aside0.mk (Kd.R_lower (Kd.R_new' (Kd.R_new' (Kd.R_new' ho1 (Kd.R_lt zq15_2)) (Kd.R_lt zq15_3)) (Kd.R_lt zq15_4)) (below_size zq15_0)); have n5_ := Aside0.mk (blk_below (g := gb781) (o := .cells #[.int .u8 a0_0, .int .u16 a0_1, .bool a0_2, .bool a0_3, .int .i64 a0_4, .int .u8 a0_5, .int .u8 a0_6, .int .u32 a0_7, .int .u32 a0_8, .slice A0_9 l0_9.length c0_9, .slice A0_10 l0_10.length c0_10] 43 (0, 0)) zq15_1 hb); have n6_ := Aside0.mk (below_step zq15_0 hb); clear HO793; clear HO796; clear HO799; clear BK781; clear HB; have HO793 := n0_; have HO796 := n1_; have HO799 := n2_; have HO812 := n3_; have HO815 := n4_; have BK781 := n5_; have HB := n6_; clear n0_ n1_ n2_ n3_ n4_ n5_ n6_; (try clear hb); (try clear hb2); (try clear hk); (try clear hi); (try clear ho0); (try clear ho1); obtain ⟨Ao30, co30, eo30⟩ := Kd.R_slice HO812.out; subst eo30; obtain ⟨Ao31, co31, eo31⟩ := Kd.R_slice HO815.out; subst eo31) | (go_at_call 29; (with_reducible refine (weftlaw3_walk.calls kj5 t801 t802 t803 t804 t805 t806 t807 t808 t809 _ _ t810 _ _ t813 12 false _ ?side1 ?side2 ?side3 ?side4 A12.out).mono ?_); (case side1 => repeat (first | exact (Kd.R_reads' HO812.out).2.2 | (with_reducible refine Kd.C_alloc ?_ _) | (with_reducible refine Kd.C_drewN ?_ _) | (with_reducible refine Kd.C_drew ?_))); (case side2 => exact (Kd.R_reads' HO812.out).2.1); (case side3 => repeat (first | exact (Kd.R_reads' HO815.out).2.2 | (with_reducible refine Kd.C_alloc ?_ _) | (with_reducible refine Kd.C_drewN ?_ _) | (with_reducible refine Kd.C_drew ?_))); (case side4 => exact (Kd.R_reads' HO815.out).2.1); rintro e w32 ⟨rfl, hb⟩; have n0_ := Aside0.mk (Kd.R_below zq15_2 hb); have n1_ := Aside0.mk (Kd.R_below zq15_3 hb); have n2_ := Aside0.mk (Kd.R_below zq15_4 hb); have n3_ := Aside0.mk (Kd.R_below (by (with_reducible repeat (first | apply Kd.R_alloc | apply Kd.R_drewN | apply Kd.R_drew)); exact HO812.out) hb); have n4_ := Aside0.mk (Kd.R_below (by (with_reducible repeat (first | apply Kd.R_alloc | apply Kd.R_drewN | apply Kd.R_drew)); exact HO815.out) hb); have n5_ := Aside0.mk (blk_below (g := gb781) (o := .cells #[.int .u8 a0_0, .int .u16 a0_1, .bool a0_2, .bool a0_3, .int .i64 a0_4, .int .u8 a0_5, .int .u8 a0_6, .int .u32 a0_7, .int .u32 a0_8, .slice A0_9 l0_9.length c0_9, .slice A0_10 l0_10.length c0_10] 43 (0, 0)) zq15_1 hb); have n6_ := Aside0.mk (below_step zq15_0 hb); clear HO793; clear HO796; clear HO799; clear HO812; clear HO815; clear BK781; clear HB; have HO793 := n0_; have HO796 := n1_; have HO799 := n2_; have HO812 := n3_; have HO815 := n4_; have BK781 := n5_; have HB := n6_; clear n0_ n1_ n2_ n3_ n4_ n5_ n6_; (try clear hb); (try clear hb2); (try clear hk); (try clear hi)))
              go_ret
              exact ⟨by first | rfl | (simp [errW_none, errW_some] <;> rfl) | (simp [*, errW_none, errW_some] <;> rfl), by repeat (first | (with_reducible first | exact HB.out | apply below_alloc | apply pw_below_drewN | apply below_drew1 | refine below_set ?_ GE781.out) | exact HB.out)⟩
          · rw [if_neg c10] at H
            have c10b0 : (t800 == 0) = false := beq_eq_false_iff_ne.mpr c10
            have c10b1 : (t800 != 0) = true := bne_iff_ne.mpr c10
            obtain rfl := Option.some.inj H
            go_wp2_with (first | ((with_reducible refine gate_callee (f := 24) rfl ?_); refine goesL_ (some 14) rfl rfl Try.func24 (by kernel_rfl) rfl #[] rfl (by (try simp only [List.map_toArray, List.map_cons, List.map_nil]); first | done | rfl | (simp only [List.length_drop, List.length_take]; rfl)) ?_; (with_reducible refine (weftlaw3_small.calls  t782 t783 t784 t785 t786 t787 t788 t789 t790 t791 t794 _ A8.out).mono ?_); rintro e w33 ⟨v792, v795, rfl, ho0, ho1, hb⟩; refine ⟨_, rfl, ?_⟩; have n0_ := Aside0.mk (Kd.R_lower ho0 (below_size zq15_0)); have n1_ := Aside0.mk (Kd.R_lower ho1 (below_size zq15_0)); have n2_ := Aside0.mk (blk_below (g := gb781) (o := .cells #[.int .u8 a0_0, .int .u16 a0_1, .bool a0_2, .bool a0_3, .int .i64 a0_4, .int .u8 a0_5, .int .u8 a0_6, .int .u32 a0_7, .int .u32 a0_8, .slice A0_9 l0_9.length c0_9, .slice A0_10 l0_10.length c0_10] 43 (0, 0)) zq15_1 hb); have n3_ := Aside0.mk (below_step zq15_0 hb); clear BK781; clear HB; have HO793 := n0_; have HO796 := n1_; have BK781 := n2_; have HB := n3_; clear n0_ n1_ n2_ n3_; (try clear hb); (try clear hb2); (try clear hk); (try clear hi); (try clear ho0); (try clear ho1); obtain ⟨Ao34, co34, eo34⟩ := Kd.R_slice HO793.out; subst eo34; obtain ⟨Ao35, co35, eo35⟩ := Kd.R_slice HO796.out; subst eo35) | ((with_reducible refine gate_callee (f := 22) rfl ?_); refine goesL_ (some 15) rfl rfl Try.func22 (by kernel_rfl) rfl #[.agg #[.int .u8 t782, .int .u16 t783, .bool t784, .bool t785, .int .i64 t786, .int .u8 t787, .int .u8 t788, .int .u32 t789, .int .u32 t790, .slice Ao34 t791.length co34, .slice Ao35 t794.length co35]] rfl (by (try simp only [List.map_toArray, List.map_cons, List.map_nil]); first | done | rfl | (simp only [List.length_drop, List.length_take]; rfl)) ?_; (with_reducible refine (ip4_Build.calls kj5 t782 t783 t784 t785 t786 t787 t788 t789 t790 _ _ t791 _ _ t794 t797 t800 _ ?side1 ?side2 ?side3 ?side4 A9.out).mono ?_); (case side1 => repeat (first | exact (Kd.R_reads' HO793.out).2.2 | (with_reducible refine Kd.C_alloc ?_ _) | (with_reducible refine Kd.C_drewN ?_ _) | (with_reducible refine Kd.C_drew ?_))); (case side2 => exact (Kd.R_reads' HO793.out).2.1); (case side3 => repeat (first | exact (Kd.R_reads' HO796.out).2.2 | (with_reducible refine Kd.C_alloc ?_ _) | (with_reducible refine Kd.C_drewN ?_ _) | (with_reducible refine Kd.C_drew ?_))); (case side4 => exact (Kd.R_reads' HO796.out).2.1); rintro e w36 ⟨v798, rfl, ho0, hb⟩; refine ⟨_, rfl, ?_⟩; have n0_ := Aside0.mk (Kd.R_elder' zq15_2 (Kd.R_base ho0) hb); have n1_ := Aside0.mk (Kd.R_elder' zq15_3 (Kd.R_base ho0) hb); have n2_ := Aside0.mk (Kd.R_lower (Kd.R_new' (Kd.R_new' ho0 (Kd.R_lt zq15_2)) (Kd.R_lt zq15_3)) (below_size zq15_0)); have n3_ := Aside0.mk (blk_below (g := gb781) (o := .cells #[.int .u8 a0_0, .int .u16 a0_1, .bool a0_2, .bool a0_3, .int .i64 a0_4, .int .u8 a0_5, .int .u8 a0_6, .int .u32 a0_7, .int .u32 a0_8, .slice A0_9 l0_9.length c0_9, .slice A0_10 l0_10.length c0_10] 43 (0, 0)) zq15_1 hb); have n4_ := Aside0.mk (below_step zq15_0 hb); clear HO793; clear HO796; clear BK781; clear HB; have HO793 := n0_; have HO796 := n1_; have HO799 := n2_; have BK781 := n3_; have HB := n4_; clear n0_ n1_ n2_ n3_ n4_; (try clear hb); (try clear hb2); (try clear hk); (try clear hi); (try clear ho0)))
            go_ret
            exact ⟨by first | rfl | (simp [errW_none, errW_some] <;> rfl) | (simp [*, errW_none, errW_some] <;> rfl), by repeat (first | (with_reducible first | exact HB.out | apply below_alloc | apply pw_below_drewN | apply below_drew1 | refine below_set ?_ GE781.out) | exact HB.out)⟩

end Go.Proofs.Ytbacmhegalncjaa.XB
