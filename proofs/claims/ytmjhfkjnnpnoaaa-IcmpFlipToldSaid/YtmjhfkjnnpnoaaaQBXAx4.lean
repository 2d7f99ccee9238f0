-- printed by a program of this session (wip/xprint), out of the translation; Lean checks it
import Derived.Test.YtmjhfkjnnpnoaaaQBXAx0
import Derived.Test.YtmjhfkjnnpnoaaaQBXAx1
import Derived.Test.YtmjhfkjnnpnoaaaQBXAx2
import Derived.Test.YtmjhfkjnnpnoaaaQBXAx3
namespace Go.Proofs.Ytmjhfkjnnpnoaaa.XA
open Go.RowKit Go.Proofs.YtmjhfkjnnpnoaaaW.PrintWords Go.Proofs.YtmjhfkjnnpnoaaaW.PrintLast Go.Proofs.YtmjhfkjnnpnoaaaW.PrintMore Go.Proofs.YtmjhfkjnnpnoaaaX
theorem zq4_5 {P : Prop} (h : P := by (try simp only [List.map_toArray, List.map_cons, List.map_nil]); first | done | rfl | (simp only [List.length_drop, List.length_take]; rfl)) : P := h
theorem zq4_4 {P : Prop} (h : P := by repeat (first | (with_reducible first | exact HB.out | apply below_alloc | apply pw_below_drewN | apply below_drew1 | refine below_set ?_ GE243.out) | exact HB.out)) : P := h
theorem zq4_3 {P : Prop} (h : P := by repeat (first | (with_reducible first | exact HB.out | apply below_alloc | apply pw_below_drewN | apply below_drew1 | refine below_set ?_ GE227.out) | exact HB.out)) : P := h
theorem zq4_2 {P : Prop} (h : P := by first | (with_reducible exact BK227.out) | (with_reducible exact blk_drewN BK227.out _) | (with_reducible exact blk_drew BK227.out) | ((with_reducible repeat (first | refine blk_drewN ?_ _ | refine blk_drew ?_ | refine blk_alloc ?_ _)); exact BK227.out)) : P := h
theorem zq4_1 {P : Prop} (h : P := by repeat (first | (with_reducible first | exact HB.out | apply below_alloc | apply pw_below_drewN | apply below_drew1) | exact HB.out)) : P := h
theorem zq4_0 {P : Prop} (h : P := by first | (with_reducible exact BK243.out) | (with_reducible exact blk_drewN BK243.out _) | (with_reducible exact blk_drew BK243.out) | ((with_reducible repeat (first | refine blk_drewN ?_ _ | refine blk_drew ?_ | refine blk_alloc ?_ _)); exact BK243.out)) : P := h
attribute [local go_sem] max2_int min2_int max_two min_two max_three min_three max_four min_four   -- for this text's walks alone
set_option linter.unusedVariables false
set_option linter.unusedSimpArgs false

/-! ### weftlaw6_flip: function 16 -/
def weftlaw6_flip.j0 : Nat → Int → List Int → Int → Bool → Option (Bool)
  | 0, _, _, _, _ => none
  | k + 1, x1, x5, x6, x20 => if x20 = true then (some (x6 == 37)) else (if (wrap64 (8 * (x5.length : Int))) = 0 then (none) else (if 0 ≤ (wrap64 (Int.tdiv (Int.tmod x1 (wrap64 (8 * (x5.length : Int)))) 8)) then (if (wrap64 (Int.tdiv (Int.tmod x1 (wrap64 (8 * (x5.length : Int)))) 8)) < (x5.length : Int) then (if 0 ≤ (Int.tmod (Int.tmod x1 (wrap64 (8 * (x5.length : Int)))) 8) then ((icmp_Parse.f k (x5.set ((wrap64 (Int.tdiv (Int.tmod x1 (wrap64 (8 * (x5.length : Int)))) 8)) : Int).toNat (Go.bits .xor .u8 (rd x5 (wrap64 (Int.tdiv (Int.tmod x1 (wrap64 (8 * (x5.length : Int)))) 8))) (shl .u8 1 (Int.tmod (Int.tmod x1 (wrap64 (8 * (x5.length : Int)))) 8))))).bind fun bt234 => (if bt234.2.2.2.2 = 33 then ((weftlaw6_controls.f k bt234.1 bt234.2.1 bt234.2.2.1 bt234.2.2.2.1 0 0 0 ([] : List Int)).bind fun t242 => (some t242)) else (some false))) else (none)) else (none)) else (none)))
def weftlaw6_flip.f (k : Nat) (a0_0 : Int) (a0_1 : Int) (a0_2 : Int) (l0_3 : List Int) (a1 : Int) : Option (Bool) := (icmp_Build.f k a0_0 a0_1 a0_2 l0_3).bind fun bt228 => (if bt228.2 = 0 then (weftlaw6_flip.j0 k a1 bt228.1 bt228.2 (decide ((bt228.1.length : Int) < 8))) else (weftlaw6_flip.j0 k a1 bt228.1 bt228.2 true))
def weftlaw6_flip.T5 : Bool × List (List Nat × List Nat) := (true, [([], []), ([], []), ([1], [1]), ([], []), ([], []), ([4], [4]), ([3, 5], [3, 5]), ([6], [6]), ([], []), ([8], [8]), ([9], [9]), ([7, 10], [7, 10]), ([0, 2, 0, 1, 2, 3, 4, 5, 6, 7, 8, 9, 10, 11], [0, 2]), ([12, 11, 0, 1, 2, 3, 4, 5, 6, 7, 8, 9, 10, 11], [11, 12])])
def weftlaw6_flip.B5 : List Nat := [0, 0, 2, 0, 0, 16, 56, 120, 0, 256, 768, 2040, 4095, 8191]
theorem weftlaw6_flip.tab5 : rtab .any (opsOf Try.f16 5) = weftlaw6_flip.T5 := by kernel_rfl
theorem weftlaw6_flip.bits5 : waitsOk weftlaw6_flip.T5.2 weftlaw6_flip.B5 = true := by kernel_rfl
set_option maxHeartbeats 8000000 in
set_option maxRecDepth 100000 in
theorem weftlaw6_flip.calls (k : Nat) (a0_0 : Int) (a0_1 : Int) (a0_2 : Int) (A0_3 : Option Addr) (c0_3 : Nat) (l0_3 : List Int) (a1 : Int) (r : Bool) (w : World) (hr0_3 : Kd.C (Kd.int .u8) w A0_3 l0_3.length l0_3) (hc0_3 : l0_3.length ≤ c0_3) (h : weftlaw6_flip.f k a0_0 a0_1 a0_2 l0_3 a1 = some r) :
    Calls Try.prog 16 #[.agg #[.int .u8 a0_0, .int .u8 a0_1, .int .u32 a0_2, .slice A0_3 l0_3.length c0_3], .int .i64 a1] w fun e w' => e = .returned (.bool r) ∧ Below w.heap.size w w' := by
  have hu25 := Try.underlying25
  have HR0_3 := Aside0.mk hr0_3
  have HC0_3 := Aside0.mk hc0_3
  clear hr0_3 hc0_3
  have HB := Aside0.mk (Below.refl w.heap.size w)
  have H : ((icmp_Build.f k a0_0 a0_1 a0_2 l0_3).bind fun bt228 => (if bt228.2 = 0 then (weftlaw6_flip.j0 k a1 bt228.1 bt228.2 (decide ((bt228.1.length : Int) < 8))) else (weftlaw6_flip.j0 k a1 bt228.1 bt228.2 true))) = some r := h
  clear h
  replace H := Option.bind_eq_some_iff.mp H
  obtain ⟨⟨t228, t231⟩, A30, H⟩ := H
  replace H : (if t231 = 0 then (weftlaw6_flip.j0 k a1 t228 t231 (decide ((t228.length : Int) < 8))) else (weftlaw6_flip.j0 k a1 t228 t231 true)) = some r := H
  have A3 := Aside0.mk A30
  clear A30
  have HC4 := Aside0.mk H
  clear H
  go_enter Try.func16, Try.ntmps16
  go_upto_region 2 with (first | ((with_reducible refine gate_dst (N := 2) rfl ?_); (try (refine gate_guard (by rfl) ?_; dsimp only)); refine box_event ?hg (N := 2) ?hd (cs := #[.int .u8 a0_0, .int .u8 a0_1, .int .u32 a0_2, .slice A0_3 l0_3.length c0_3]) (t := 25) ?hr ?_; (case hd => rfl); (case hg => rfl); (case hr => first | (go_simp; done) | (go_simp; rfl)); intro gb227 hg w5 hbox hb; have n0_ := Aside0.mk (below_step zq4_1 hb); have n1_ := Aside0.mk (hbox); have n2_ := Aside0.mk ((by rw [hg]; exact (below_size zq4_1) : w.heap.size ≤ gb227)); have n3_ := Aside0.mk ((by rw [hg]; exact (below_size zq4_1) : w.heap.size ≤ gb227)); clear HB; have HB := n0_; have BK227 := n1_; have GW227 := n2_; have GE227 := n3_; clear n0_ n1_ n2_ n3_; clear hb hbox hg; have hcz6_0 : w5.cell? ⟨gb227, 0, none⟩ = some (.int .u8 a0_0) := (blk_cell BK227.out 0).trans rfl; have hcz6_1 : w5.cell? ⟨gb227, 1, none⟩ = some (.int .u8 a0_1) := (blk_cell BK227.out 1).trans rfl; have hcz6_2 : w5.cell? ⟨gb227, 2, none⟩ = some (.int .u32 a0_2) := (blk_cell BK227.out 2).trans rfl; have hcz6_3 : w5.cell? ⟨gb227, 3, none⟩ = some (.slice A0_3 l0_3.length c0_3) := (blk_cell BK227.out 3).trans rfl; have hfz6_0 := blk_frozen BK227.out 0; have hfz6_1 := blk_frozen BK227.out 1; have hfz6_2 := blk_frozen BK227.out 2; have hfz6_3 := blk_frozen BK227.out 3) | ((with_reducible refine gate_callee (f := 18) rfl ?_); refine goesL_ (some 11) rfl rfl Try.func18 (by kernel_rfl) rfl #[.agg #[.int .u8 a0_0, .int .u8 a0_1, .int .u32 a0_2, .slice A0_3 l0_3.length c0_3]] rfl zq4_5 ?_; (with_reducible refine (icmp_Build.calls k a0_0 a0_1 a0_2 _ _ l0_3 t228 t231 _ ?side1 ?side2 A3.out).mono ?_); (case side1 => repeat (first | exact (Kd.C_below HR0_3.out HB.out) | (with_reducible refine Kd.C_alloc ?_ _) | (with_reducible refine Kd.C_drewN ?_ _) | (with_reducible refine Kd.C_drew ?_))); (case side2 => exact HC0_3.out); rintro e w7 ⟨v229, rfl, ho0, hb⟩; refine ⟨_, rfl, ?_⟩; have n0_ := Aside0.mk (Kd.R_lower ho0 (below_size zq4_3)); have n1_ := Aside0.mk (blk_below (g := gb227) (o := .cells #[.int .u8 a0_0, .int .u8 a0_1, .int .u32 a0_2, .slice A0_3 l0_3.length c0_3] 25 (0, 0)) zq4_2 hb); have n2_ := Aside0.mk (below_step zq4_3 hb); clear BK227; clear HB; have HO230 := n0_; have BK227 := n1_; have HB := n2_; clear n0_ n1_ n2_; (try clear hb); (try clear hb2); (try clear hk); (try clear hi); (try clear ho0)))
  (try simp only [Act.put, List.setIfInBounds_toArray, List.set_cons_zero, List.set_cons_succ])
  go_cut [20] (fun v20 wc => ∃ (kq : Nat) (x20_3 : Bool), v20 = .bool x20_3 ∧ Aside0 (weftlaw6_flip.j0 kq a1 t228 t231 x20_3 = some r) ∧ Aside0 (kq ≤ k) ∧ Aside0 (Kd.R (Kd.int .u8) 5 wc w.heap.size (fun _ => True) v229 t228) ∧ Aside0 (wc.heap[gb227]? = some (.cells #[.int .u8 a0_0, .int .u8 a0_1, .int .u32 a0_2, (.slice A0_3 l0_3.length c0_3)] 25 (0, 0))) ∧ Aside0 (Below w.heap.size w wc))
  case first =>
    have H := HC4.out
    clear HC4
    by_cases c8 : t231 = 0
    · rw [if_pos c8] at H
      have c8b0 : (t231 == 0) = true := beq_iff_eq.mpr c8
      have c8b1 : (t231 != 0) = false := bne_eq_false_iff_eq.mpr c8
      clear c8
      (first | rw [c8b0] | (simp only [i64_w, i32_w]; rw [c8b0]) | skip)
      have H' := Aside0.mk H
      clear H
      obtain ⟨Ao9, co9, eo9⟩ := Kd.R_slice HO230.out
      subst eo9
      go_wp2
      go_meet
      case rel => exact ⟨_, (decide ((t228.length : Int) < 8)), (by first | rfl | (simp; done) | (simp [*]; done)), H', ⟨by first | omega | exact Nat.le_refl _⟩, ⟨by (with_reducible repeat (first | apply Kd.R_alloc | apply Kd.R_drewN | apply Kd.R_drew)); exact HO230.out⟩, ⟨by first | (with_reducible exact BK227.out) | (with_reducible exact blk_drewN BK227.out _) | (with_reducible exact blk_drew BK227.out) | ((with_reducible repeat (first | refine blk_drewN ?_ _ | refine blk_drew ?_ | refine blk_alloc ?_ _)); exact BK227.out)⟩, ⟨by repeat (first | (with_reducible first | exact HB.out | apply below_alloc | apply pw_below_drewN | apply below_drew1 | refine below_set ?_ GE227.out) | exact HB.out)⟩⟩
    · rw [if_neg c8] at H
      have c8b0 : (t231 == 0) = false := beq_eq_false_iff_ne.mpr c8
      have c8b1 : (t231 != 0) = true := bne_iff_ne.mpr c8
      (first | rw [c8b0] | (simp only [i64_w, i32_w]; rw [c8b0]) | skip)
      have H' := Aside0.mk H
      clear H
      go_wp2
      go_meet
      case rel => exact ⟨_, (true), (by first | rfl | (simp; done) | (simp [*]; done)), H', ⟨by first | omega | exact Nat.le_refl _⟩, ⟨by (with_reducible repeat (first | apply Kd.R_alloc | apply Kd.R_drewN | apply Kd.R_drew)); exact HO230.out⟩, ⟨by first | (with_reducible exact BK227.out) | (with_reducible exact blk_drewN BK227.out _) | (with_reducible exact blk_drew BK227.out) | ((with_reducible repeat (first | refine blk_drewN ?_ _ | refine blk_drew ?_ | refine blk_alloc ?_ _)); exact BK227.out)⟩, ⟨by repeat (first | (with_reducible first | exact HB.out | apply below_alloc | apply pw_below_drewN | apply below_drew1 | refine below_set ?_ GE227.out) | exact HB.out)⟩⟩
  case rest =>
    clear HC4
    try clear c1
    try clear p2
    try clear c8
    try clear c8b0
    try clear c8b1
    try clear hcz6_0
    try clear hcz6_1
    try clear hcz6_2
    try clear hcz6_3
    try clear hfz6_0
    try clear hfz6_1
    try clear hfz6_2
    try clear hfz6_3
    obtain ⟨kq, x20_3, rfl, HA, HJ3, HO_5, BK227, HB⟩ := hcut
    cases kq with
    | zero => exact absurd HA.out (by simp [weftlaw6_flip.j0])
    | succ kj3 =>
      have H := HA.out
      clear HA
      simp only [weftlaw6_flip.j0] at H
      by_cases c10 : x20_3 = true
      · subst c10
        have H1 : (some (t231 == 37)) = some r := by rw [if_pos rfl] at H; exact H
        clear H
        have H := H1
        clear H1
        obtain rfl := Option.some.inj H
        go_wp2
        go_ret
        exact ⟨by first | rfl | (simp [errW_none, errW_some] <;> rfl) | (simp [*, errW_none, errW_some] <;> rfl), by repeat (first | (with_reducible first | exact HB.out | apply below_alloc | apply pw_below_drewN | apply below_drew1 | refine below_set ?_ GE227.out) | exact HB.out)⟩
      · replace c10 := Bool.eq_false_iff.mpr c10
        subst c10
        have H1 : (if (wrap64 (8 * (t228.length : Int))) = 0 then (none) else (if 0 ≤ (wrap64 (Int.tdiv (Int.tmod a1 (wrap64 (8 * (t228.length : Int)))) 8)) then (if (wrap64 (Int.tdiv (Int.tmod a1 (wrap64 (8 * (t228.length : Int)))) 8)) < (t228.length : Int) then (if 0 ≤ (Int.tmod (Int.tmod a1 (wrap64 (8 * (t228.length : Int)))) 8) then ((icmp_Parse.f kj3 (t228.set ((wrap64 (Int.tdiv (Int.tmod a1 (wrap64 (8 * (t228.length : Int)))) 8)) : Int).toNat (Go.bits .xor .u8 (rd t228 (wrap64 (Int.tdiv (Int.tmod a1 (wrap64 (8 * (t228.length : Int)))) 8))) (shl .u8 1 (Int.tmod (Int.tmod a1 (wrap64 (8 * (t228.length : Int)))) 8))))).bind fun bt234 => (if bt234.2.2.2.2 = 33 then ((weftlaw6_controls.f kj3 bt234.1 bt234.2.1 bt234.2.2.1 bt234.2.2.2.1 0 0 0 ([] : List Int)).bind fun t242 => (some t242)) else (some false))) else (none)) else (none)) else (none))) = some r := by rw [if_neg (show ¬ (false = true) by decide)] at H; exact H
        clear H
        have H := H1
        clear H1
        by_cases c11 : (wrap64 (8 * (t228.length : Int))) = 0
        · rw [if_pos c11] at H
          exact absurd H (by simp)
        · rw [if_neg c11] at H
          have c11b0 : ((wrap64 (8 * (t228.length : Int))) == 0) = false := beq_eq_false_iff_ne.mpr c11
          have c11b1 : ((wrap64 (8 * (t228.length : Int))) != 0) = true := bne_iff_ne.mpr c11
          obtain ⟨ji12, hji12⟩ : ∃ j_ : Int, (wrap64 (Int.tdiv (Int.tmod a1 (wrap64 (8 * (t228.length : Int)))) 8)) = j_ := ⟨_, rfl⟩
          replace H : (if 0 ≤ (ji12) then (if (ji12) < (t228.length : Int) then (if 0 ≤ (Int.tmod (Int.tmod a1 (wrap64 (8 * (t228.length : Int)))) 8) then ((icmp_Parse.f kj3 (t228.set ((ji12) : Int).toNat (Go.bits .xor .u8 (rd t228 (ji12)) (shl .u8 1 (Int.tmod (Int.tmod a1 (wrap64 (8 * (t228.length : Int)))) 8))))).bind fun bt234 => (if bt234.2.2.2.2 = 33 then ((weftlaw6_controls.f kj3 bt234.1 bt234.2.1 bt234.2.2.1 bt234.2.2.2.1 0 0 0 ([] : List Int)).bind fun t242 => (some t242)) else (some false))) else (none)) else (none)) else (none)) = some r := by first | (rw [hji12] at H; exact H) | (simp only [hji12] at H ⊢; exact H)
          have hji12w : (IntKind.i64.wrap (Int.tdiv (Int.tmod a1 (wrap64 (8 * (t228.length : Int)))) 8)) = ji12 := (i64_w _).trans hji12
          by_cases c13 : 0 ≤ (ji12)
          · rw [if_pos c13] at H
            have c13b0 : decide (0 ≤ (ji12)) = true := decide_eq_true c13
            clear c13
            by_cases c14 : (ji12) < (t228.length : Int)
            · rw [if_pos c14] at H
              have c14b0 : decide ((ji12) < (t228.length : Int)) = true := decide_eq_true c14
              clear c14
              obtain ⟨ji15, hji15⟩ : ∃ j_ : Int, (Int.tmod (Int.tmod a1 (wrap64 (8 * (t228.length : Int)))) 8) = j_ := ⟨_, rfl⟩
              replace H : (if 0 ≤ (ji15) then ((icmp_Parse.f kj3 (t228.set ((ji12) : Int).toNat (Go.bits .xor .u8 (rd t228 (ji12)) (shl .u8 1 (ji15))))).bind fun bt234 => (if bt234.2.2.2.2 = 33 then ((weftlaw6_controls.f kj3 bt234.1 bt234.2.1 bt234.2.2.1 bt234.2.2.2.1 0 0 0 ([] : List Int)).bind fun t242 => (some t242)) else (some false))) else (none)) = some r := by first | (rw [hji15] at H; exact H) | (simp only [hji15] at H ⊢; exact H)
              by_cases c16 : 0 ≤ (ji15)
              · rw [if_pos c16] at H
                have c16b0 := eq_true c16
                have c16b1 : decide (0 ≤ (ji15)) = true := decide_eq_true c16
                clear c16
                obtain ⟨ji17, hji17⟩ : ∃ j_ : Int, (shl .u8 1 (ji15)) = j_ := ⟨_, rfl⟩
                replace H : ((icmp_Parse.f kj3 (t228.set ((ji12) : Int).toNat (Go.bits .xor .u8 (rd t228 (ji12)) (ji17)))).bind fun bt234 => (if bt234.2.2.2.2 = 33 then ((weftlaw6_controls.f kj3 bt234.1 bt234.2.1 bt234.2.2.1 bt234.2.2.2.1 0 0 0 ([] : List Int)).bind fun t242 => (some t242)) else (some false))) = some r := by first | (rw [hji17] at H; exact H) | (simp only [hji17] at H ⊢; exact H)
                have hji17_ : (IntKind.u8.wrap (1 * 2 ^ min (ji15).toNat 8)) = ji17 := hji17
                have hji17z : (ji15) ≤ 8 → (IntKind.u8.wrap (1 * 2 ^ (ji15).toNat)) = ji17 := shl_small hji17
                have hji17u : (IntKind.u8.wrap (2 ^ min (ji15).toNat 8)) = ji17 := by have h_ := hji17_; rw [Int.one_mul] at h_; exact h_
                have hji17v : (ji15) ≤ 8 → (IntKind.u8.wrap (2 ^ (ji15).toNat)) = ji17 := fun hle_ => by have h_ := hji17z hle_; rw [Int.one_mul] at h_; exact h_
                obtain ⟨y233, hy233⟩ : ∃ y_ : List Int, y_ = (t228.set ((ji12) : Int).toNat (Go.bits .xor .u8 (rd t228 (ji12)) (ji17))) := ⟨_, rfl⟩
                replace H : ((icmp_Parse.f kj3 y233).bind fun bt234 => (if bt234.2.2.2.2 = 33 then ((weftlaw6_controls.f kj3 bt234.1 bt234.2.1 bt234.2.2.1 bt234.2.2.2.1 0 0 0 ([] : List Int)).bind fun t242 => (some t242)) else (some false))) = some r := by first | (rw [hy233]; with_reducible exact H) | (have H2_ := (Option.bind_some _ _).symm.trans H; rw [hy233]; with_reducible exact H2_) | (have H2_ := (Option.bind_some _ _).symm.trans H; with_reducible exact H2_) | with_reducible exact H | (rw [hy233]; exact H) | exact H
                have Ny233 := Aside0.mk hy233
                clear hy233
                replace H := Option.bind_eq_some_iff.mp H
                obtain ⟨⟨t234, t235, t236, t237, t240⟩, A190, H⟩ := H
                replace H : (if t240 = 33 then ((weftlaw6_controls.f kj3 t234 t235 t236 t237 0 0 0 ([] : List Int)).bind fun t242 => (some t242)) else (some false)) = some r := H
                have A19 := Aside0.mk A190
                clear A190
                by_cases c20 : t240 = 33
                · rw [if_pos c20] at H
                  have c20b0 : (t240 == 33) = true := beq_iff_eq.mpr c20
                  have c20b1 : (t240 != 33) = false := bne_eq_false_iff_eq.mpr c20
                  clear c20
                  replace H := Option.bind_eq_some_iff.mp H
                  obtain ⟨t242, A210, H⟩ := H
                  replace H : (some t242) = some r := H
                  have A21 := Aside0.mk A210
                  clear A210
                  obtain rfl := Option.some.inj H
                  obtain ⟨Ao22, co22, eo22⟩ := Kd.R_slice HO_5.out
                  subst eo22
                  try go_wp2
                  have n0_ := Aside0.mk (Kd.R_drew HO_5.out)
                  have n1_ := Aside0.mk (blk_drew BK227.out)
                  have n2_ := Aside0.mk (below_drew1 HB.out)
                  clear HO_5
                  clear BK227
                  clear HB
                  have HO_5 := n0_
                  have BK227 := n1_
                  have HB := n2_
                  clear n0_ n1_ n2_
                  have p232 : 0 ≤ ((ji12) : Int) := of_decide_eq_true (by first | (with_reducible assumption) | assumption)
                  have q232 : (ji12) < (t228.length : Int) := of_decide_eq_true (by first | (with_reducible assumption) | assumption)
                  obtain ⟨ad232, e232, hx232_0⟩ := Kd.at_int (Kd.R_reads' HO_5.out).2.2 (ji12) p232 q232
                  cases e232
                  replace p232 := eq_true p232
                  replace q232 := eq_true q232
                  have p18 : 0 ≤ ((ji12) : Int) := of_decide_eq_true (by first | (with_reducible assumption) | assumption)
                  have q18 : ((ji12) : Int) < ((t228.length : Int) : Int) := of_decide_eq_true (by first | (with_reducible assumption) | assumption)
                  obtain ⟨go18, co18, eo18, gb18, gl18, cl18, HG18⟩ := Kd.R_form HO_5.out (by omega)
                  (first | cases eo18 | (injection eo18 with ea_ en_ ec_; (first | subst ea_ | (injection ea_ with ea_; subst ea_)); subst ec_; clear en_))
                  have GB18 := Aside0.mk gb18
                  have GG18 := Aside0.mk HG18
                  clear gb18 gl18 HG18
                  (first | simp only [add_plain] at hx232_0 | skip)
                  obtain ⟨hx18_0, hf18_0⟩ := Kd.R_celln 0 HO_5.out ((ji12) : Int) p18 q18
                  replace p18 := eq_true p18
                  replace q18 := eq_true q18
                  have HP24 := Kd.R_putn HO_5.out ((ji12) : Int) (Go.bits .xor .u8 (rd t228 (ji12)) (ji17))
                  rw [← Ny233.out] at HP24
                  have HQ24 := Aside0.mk HP24
                  clear HP24
                  refine start_ (n := 14) (S := fun w' => w'.cell? ⟨go18, ((ji12)).toNat, none⟩ = some (.int .u8 (rd t228 (ji12)))) (ds := [13]) #[false, false, false, false, false, false, false, false, false, false, false, false, false, false] (by kernel_rfl) rfl rfl (hx232_0) (fun hHeld => ?_); refine with_tabW weftlaw6_flip.tab5 weftlaw6_flip.bits5 (fun HT_ HW_ => ?_)
                  generalize wc.drew = w23 at HO_5 BK227 HB GG18 HQ24 hf18_0 hx18_0 hx232_0 hHeld ⊢
                  refine pure_ (i := 0) (N := some 28) (v := ?_) (a' := ?_) #[true, false, false, false, false, false, false, false, false, false, false, false, false, false] rfl rfl (any_of HT_.out (by kernel_rfl)) (fun _ _ _ h => h) (Or.inl ⟨by rfl, ?_⟩) ?_ ?_
                  rotate_left
                  · intro w'
                    go_simp
                    with_reducible rfl
                  rotate_left
                  · simp only [Act.put, List.setIfInBounds_toArray, List.set_cons_zero, List.set_cons_succ, i64_w, i32_w, IntKind.wrap_u8, IntKind.wrap_u32]
                    rfl
                  refine pure_ (i := 1) (N := some 29) (v := ?_) (a' := ?_) #[true, true, false, false, false, false, false, false, false, false, false, false, false, false] rfl rfl (any_of HT_.out (by kernel_rfl)) (fun _ _ _ h => h) (Or.inl ⟨by rfl, ?_⟩) ?_ ?_
                  rotate_left
                  · intro w'
                    go_simp
                    with_reducible rfl
                  rotate_left
                  · simp only [Act.put, List.setIfInBounds_toArray, List.set_cons_zero, List.set_cons_succ, i64_w, i32_w, IntKind.wrap_u8, IntKind.wrap_u32]
                    rfl
                  refine pure_ (i := 2) (N := some 30) (v := ?_) (a' := ?_) #[true, true, true, false, false, false, false, false, false, false, false, false, false, false] rfl rfl (any_of HT_.out (by kernel_rfl)) (fun _ _ _ h => h) (Or.inl ⟨by rfl, ?_⟩) ?_ ?_
                  rotate_left
                  · intro w'
                    go_simp
                    with_reducible rfl
                  rotate_left
                  · simp only [Act.put, List.setIfInBounds_toArray, List.set_cons_zero, List.set_cons_succ, i64_w, i32_w, IntKind.wrap_u8, IntKind.wrap_u32]
                    rfl
                  refine pure_ (i := 3) (N := some 31) (v := ?_) (a' := ?_) #[true, true, true, true, false, false, false, false, false, false, false, false, false, false] rfl rfl (any_of HT_.out (by kernel_rfl)) (fun _ _ _ h => h) (Or.inl ⟨by rfl, ?_⟩) ?_ ?_
                  rotate_left
                  · intro w'
                    go_simp
                    with_reducible rfl
                  rotate_left
                  · simp only [Act.put, List.setIfInBounds_toArray, List.set_cons_zero, List.set_cons_succ, i64_w, i32_w, IntKind.wrap_u8, IntKind.wrap_u32]
                    rfl
                  refine pure_ (i := 4) (N := some 32) (v := ?_) (a' := ?_) #[true, true, true, true, true, false, false, false, false, false, false, false, false, false] rfl rfl (any_of HT_.out (by kernel_rfl)) (fun _ _ _ h => h) (Or.inl ⟨by rfl, ?_⟩) ?_ ?_
                  rotate_left
                  · intro w'
                    go_simp
                    with_reducible rfl
                  rotate_left
                  · simp only [Act.put, List.setIfInBounds_toArray, List.set_cons_zero, List.set_cons_succ, i64_w, i32_w, IntKind.wrap_u8, IntKind.wrap_u32]
                    rfl
                  refine pure_ (i := 5) (N := some 33) (v := ?_) (a' := ?_) #[true, true, true, true, true, true, false, false, false, false, false, false, false, false] rfl rfl (any_of HT_.out (by kernel_rfl)) (fun _ _ _ h => h) (Or.inl ⟨by rfl, ?_⟩) ?_ ?_
                  rotate_left
                  · intro w'
                    go_simp
                    with_reducible rfl
                  rotate_left
                  · simp only [Act.put, List.setIfInBounds_toArray, List.set_cons_zero, List.set_cons_succ, i64_w, i32_w, IntKind.wrap_u8, IntKind.wrap_u32]
                    rfl
                  refine pure_ (i := 6) (N := some 34) (v := ?_) (a' := ?_) #[true, true, true, true, true, true, true, false, false, false, false, false, false, false] rfl rfl (any_of HT_.out (by kernel_rfl)) (fun _ _ _ h => h) (Or.inl ⟨by rfl, ?_⟩) ?_ ?_
                  rotate_left
                  · intro w'
                    go_simp
                    with_reducible rfl
                  rotate_left
                  · simp only [Act.put, List.setIfInBounds_toArray, List.set_cons_zero, List.set_cons_succ, i64_w, i32_w, IntKind.wrap_u8, IntKind.wrap_u32]
                    rfl
                  refine pure_ (i := 8) (N := some 36) (v := ?_) (a' := ?_) #[true, true, true, true, true, true, true, false, true, false, false, false, false, false] rfl rfl (any_of HT_.out (by kernel_rfl)) (fun _ _ _ h => h) (Or.inl ⟨by rfl, ?_⟩) ?_ ?_
                  rotate_left
                  · intro w'
                    go_simp
                    with_reducible rfl
                  rotate_left
                  · simp only [Act.put, List.setIfInBounds_toArray, List.set_cons_zero, List.set_cons_succ, i64_w, i32_w, IntKind.wrap_u8, IntKind.wrap_u32]
                    rfl
                  refine pure_ (i := 9) (N := some 37) (v := ?_) (a' := ?_) #[true, true, true, true, true, true, true, false, true, true, false, false, false, false] rfl rfl (any_of HT_.out (by kernel_rfl)) (fun _ _ _ h => h) (Or.inl ⟨by rfl, ?_⟩) ?_ ?_
                  rotate_left
                  · intro w'
                    go_simp
                    with_reducible rfl
                  rotate_left
                  · simp only [Act.put, List.setIfInBounds_toArray, List.set_cons_zero, List.set_cons_succ, i64_w, i32_w, IntKind.wrap_u8, IntKind.wrap_u32]
                    rfl
                  refine pure_ (i := 10) (N := some 38) (v := ?_) (a' := ?_) #[true, true, true, true, true, true, true, false, true, true, true, false, false, false] rfl rfl (any_of HT_.out (by kernel_rfl)) (fun _ _ _ h => h) (Or.inl ⟨by rfl, ?_⟩) ?_ ?_
                  rotate_left
                  · intro w'
                    go_simp
                    with_reducible rfl
                  rotate_left
                  · simp only [Act.put, List.setIfInBounds_toArray, List.set_cons_zero, List.set_cons_succ, i64_w, i32_w, IntKind.wrap_u8, IntKind.wrap_u32]
                    rfl
                  refine take_ (i := 7) (N := some 35) (v := ?_) (a' := ?_) #[true, true, true, true, true, true, true, true, true, true, true, false, false, false] rfl rfl (take_ofW HT_.out HW_.out (by kernel_rfl)) (fun _ _ _ h => h) (Or.inl ⟨by rfl, ?_⟩) hHeld ?_ ?_
                  rotate_left
                  · intro w' s0
                    go_simp
                    with_reducible rfl
                  rotate_left
                  · simp only [Act.put, List.setIfInBounds_toArray, List.set_cons_zero, List.set_cons_succ, i64_w, i32_w, IntKind.wrap_u8, IntKind.wrap_u32]
                    rfl
                  refine pure_ (i := 11) (N := some 39) (v := ?_) (a' := ?_) #[true, true, true, true, true, true, true, true, true, true, true, true, false, false] rfl rfl (any_of HT_.out (by kernel_rfl)) (fun _ _ _ h => h) (Or.inl ⟨by rfl, ?_⟩) ?_ ?_
                  rotate_left
                  · intro w'
                    go_simp
                    with_reducible rfl
                  rotate_left
                  · simp only [Act.put, List.setIfInBounds_toArray, List.set_cons_zero, List.set_cons_succ, i64_w, i32_w, IntKind.wrap_u8, IntKind.wrap_u32]
                    rfl
                  refine pure_ (i := 12) (N := some 40) (v := ?_) (a' := ?_) #[true, true, true, true, true, true, true, true, true, true, true, true, true, false] rfl rfl (any_of HT_.out (by kernel_rfl)) (fun _ _ _ h => h) (Or.inl ⟨by rfl, ?_⟩) ?_ ?_
                  rotate_left
                  · intro w'
                    go_simp
                    with_reducible rfl
                  rotate_left
                  · simp only [Act.put, List.setIfInBounds_toArray, List.set_cons_zero, List.set_cons_succ, i64_w, i32_w, IntKind.wrap_u8, IntKind.wrap_u32]
                    rfl
                  refine last_ (i := 13) (N := none) #[true, true, true, true, true, true, true, true, true, true, true, true, true, true] rfl rfl (one_of HT_.out (by kernel_rfl)) (by decide) (fun K hK => ?_)
                  refine skip_ (w1 := ?_) (by rfl) rfl ?_ ?_
                  rotate_left
                  · go_simp
                    rfl
                  refine hK.out _ _ ?_
                  clear hK K
                  refine done_ (done_of HT_.out (by kernel_rfl)) ?_
                  have n0_ : Aside0 (Kd.R (Kd.int .u8) 5 (w23.setCell ⟨go18, ((ji12) : Int).toNat, none⟩ (.int .u8 (Go.bits .xor .u8 (rd t228 (ji12)) (ji17)))) w.heap.size (fun _ => True) (.slice (some ⟨go18, 0, none⟩) t228.length co22) y233) := ⟨by (with_reducible repeat (first | apply Kd.R_alloc | apply Kd.R_drewN | apply Kd.R_drew)); exact HQ24.out⟩
                  have n1_ : Aside0 ((w23.setCell ⟨go18, ((ji12) : Int).toNat, none⟩ (.int .u8 (Go.bits .xor .u8 (rd t228 (ji12)) (ji17)))).heap[gb227]? = some (.cells #[.int .u8 a0_0, .int .u8 a0_1, .int .u32 a0_2, .slice A0_3 l0_3.length c0_3] 25 (0, 0))) := ⟨by (with_reducible repeat (first | refine blk_drewN ?_ _ | refine blk_drew ?_ | refine blk_alloc ?_ _)); refine blk_far ?_ (by have h_ := Kd.R_ne HO_5.out BK227.out (by decide); intro e_; exact h_ (by rw [e_]; rfl)) _; first | (with_reducible exact BK227.out) | (with_reducible exact blk_drewN BK227.out _) | (with_reducible exact blk_drew BK227.out) | ((with_reducible repeat (first | refine blk_drewN ?_ _ | refine blk_drew ?_ | refine blk_alloc ?_ _)); exact BK227.out)⟩
                  have n2_ : Aside0 (Below w.heap.size w (w23.setCell ⟨go18, ((ji12) : Int).toNat, none⟩ (.int .u8 (Go.bits .xor .u8 (rd t228 (ji12)) (ji17))))) := ⟨by repeat (first | (with_reducible first | exact HB.out | apply below_alloc | apply pw_below_drewN | apply below_drew1 | refine below_set ?_ GB18.out | refine below_set ?_ GE227.out) | exact HB.out)⟩
                  (try clear HO_5)
                  (try clear BK227)
                  (try clear HB)
                  generalize (w23.setCell ⟨go18, ((ji12) : Int).toNat, none⟩ (.int .u8 (Go.bits .xor .u8 (rd t228 (ji12)) (ji17)))) = w25 at n0_ n1_ n2_ ⊢
                  have HO_5 := n0_
                  have BK227 := n1_
                  have HB := n2_
                  clear n0_ n1_ n2_
                  try go_wp2_with (first | ((with_reducible refine gate_callee (f := 19) rfl ?_); refine goesL_ (some 43) rfl rfl Try.func19 (by kernel_rfl) rfl #[.slice (some ⟨go18, 0, none⟩) y233.length co22] rfl (by (try simp only [List.map_toArray, List.map_cons, List.map_nil]); first | done | (rw [show y233.length = t228.length from (Kd.R_reads' HO_5.out).1.symm] <;> rfl) | rfl | (simp only [List.length_drop, List.length_take]; rfl)) ?_; (with_reducible refine (icmp_Parse.calls kj3 _ _ y233 t234 t235 t236 t237 t240 _ ?side1 ?side2 A19.out).mono ?_); (case side1 => repeat (first | exact (Kd.R_reads' HO_5.out).2.2 | (with_reducible refine Kd.C_alloc ?_ _) | (with_reducible refine Kd.C_drewN ?_ _) | (with_reducible refine Kd.C_drew ?_))); (case side2 => rw [show y233.length = t228.length from (Kd.R_reads' HO_5.out).1.symm]; exact (Kd.R_reads' HO_5.out).2.1); rintro e w26 ⟨v238, rfl, ho0, hb⟩; refine ⟨_, rfl, ?_⟩; have n0_ := Aside0.mk (Kd.R_elder' (by (with_reducible repeat (first | apply Kd.R_alloc | apply Kd.R_drewN | apply Kd.R_drew)); exact HO_5.out) (Kd.R_base ho0) hb); have n1_ := Aside0.mk (Kd.R_lower (Kd.R_new' ho0 (Kd.R_lt (by (with_reducible repeat (first | apply Kd.R_alloc | apply Kd.R_drewN | apply Kd.R_drew)); exact HO_5.out))) (below_size zq4_3)); have n2_ := Aside0.mk (blk_below (g := gb227) (o := .cells #[.int .u8 a0_0, .int .u8 a0_1, .int .u32 a0_2, .slice A0_3 l0_3.length c0_3] 25 (0, 0)) zq4_2 hb); have n3_ := Aside0.mk (below_step zq4_3 hb); clear HO_5; clear BK227; clear HB; have HO_5 := n0_; have HO239 := n1_; have BK227 := n2_; have HB := n3_; clear n0_ n1_ n2_ n3_; (try clear hb); (try clear hb2); (try clear hk); (try clear hi); (try clear ho0)) | ((with_reducible refine gate_dst (N := 7) rfl ?_); (try (refine gate_guard (by rfl) ?_; dsimp only)); refine box_event ?hg (N := 7) ?hd (cs := #[.int .u8 0, .int .u8 0, .int .u32 0, .slice none 0 0]) (t := 25) ?hr ?_; (case hd => rfl); (case hg => rfl); (case hr => first | (go_simp; done) | (go_simp; rfl)); intro gb241 hg w27 hbox hb; have n0_ := Aside0.mk (Kd.R_below (by (with_reducible repeat (first | apply Kd.R_alloc | apply Kd.R_drewN | apply Kd.R_drew)); exact HO_5.out) hb); have n1_ := Aside0.mk (Kd.R_below (by (with_reducible repeat (first | apply Kd.R_alloc | apply Kd.R_drewN | apply Kd.R_drew)); exact HO239.out) hb); have n2_ := Aside0.mk (blk_below (g := gb227) (o := .cells #[.int .u8 a0_0, .int .u8 a0_1, .int .u32 a0_2, .slice A0_3 l0_3.length c0_3] 25 (0, 0)) zq4_2 hb); have n3_ := Aside0.mk (below_step zq4_3 hb); have n4_ := Aside0.mk (hbox); have n5_ := Aside0.mk ((by rw [hg]; exact (below_size zq4_3) : w.heap.size ≤ gb241)); have n6_ := Aside0.mk ((by rw [hg]; exact (below_size zq4_3) : w.heap.size ≤ gb241)); have n7_ := Aside0.mk ((by rw [hg]; exact Nat.ne_of_lt (blk_lt (g := gb227) (o := .cells #[.int .u8 a0_0, .int .u8 a0_1, .int .u32 a0_2, .slice A0_3 l0_3.length c0_3] 25 (0, 0)) zq4_2) : gb227 ≠ gb241)); have n8_ := Aside0.mk ((by rw [hg]; exact Nat.ne_of_gt (blk_lt (g := gb227) (o := .cells #[.int .u8 a0_0, .int .u8 a0_1, .int .u32 a0_2, .slice A0_3 l0_3.length c0_3] 25 (0, 0)) zq4_2) : gb241 ≠ gb227)); clear HO_5; clear HO239; clear BK227; clear HB; have HO_5 := n0_; have HO239 := n1_; have BK227 := n2_; have HB := n3_; have BK241 := n4_; have GW241 := n5_; have GE241 := n6_; have NB227_241 := n7_; have NB241_227 := n8_; clear n0_ n1_ n2_ n3_ n4_ n5_ n6_ n7_ n8_; clear hb hbox hg; have hnb28 := NB241_227.out; have hnc28 := NB227_241.out; have hcz29_0 : w27.cell? ⟨gb241, 0, none⟩ = some (.int .u8 0) := (blk_cell BK241.out 0).trans rfl; have hcz29_1 : w27.cell? ⟨gb241, 1, none⟩ = some (.int .u8 0) := (blk_cell BK241.out 1).trans rfl; have hcz29_2 : w27.cell? ⟨gb241, 2, none⟩ = some (.int .u32 0) := (blk_cell BK241.out 2).trans rfl; have hcz29_3 : w27.cell? ⟨gb241, 3, none⟩ = some (.slice none 0 0) := (blk_cell BK241.out 3).trans rfl; have hfz29_0 := blk_frozen BK241.out 0; have hfz29_1 := blk_frozen BK241.out 1; have hfz29_2 := blk_frozen BK241.out 2; have hfz29_3 := blk_frozen BK241.out 3; obtain ⟨Ao30, co30, eo30⟩ := Kd.R_slice HO239.out; subst eo30) | (go_at_call 21; refine calls_of_args (args' := #[.agg #[.int .u8 t234, .int .u8 t235, .int .u32 t236, .slice Ao30 t237.length co30], .agg #[.int .u8 0, .int .u8 0, .int .u32 0, .slice none ([] : List Int).length 0]]) (by rfl) ?_; (with_reducible refine (weftlaw6_controls.calls kj3 t234 t235 t236 _ _ t237 0 0 0 _ _ ([] : List Int) t242 _ ?side1 ?side2 ?side3 ?side4 A21.out).mono ?_); (case side1 => refine (Kd.R_reads' (e := 5) (base := w.heap.size) (ok := fun k_ => (True ∧ some k_ ≠ (.slice (some ⟨go18, 0, none⟩) t228.length co22 : Value).ownBlock)) (n := t237.length) (c := co30) ?_).2.2; exact (by (with_reducible repeat (first | apply Kd.R_alloc | apply Kd.R_drewN | apply Kd.R_drew)); exact (Kd.R_mono (Kd.R_far (p := ⟨gb241, 3, none⟩) (Kd.R_far (p := ⟨gb241, 2, none⟩) (Kd.R_far (p := ⟨gb241, 1, none⟩) (Kd.R_far (p := ⟨gb241, 0, none⟩) (Kd.R_types HO239.out BK241.out (by decide)) (fun _ hk => hk.2) (.int .u8 t234)) (fun _ hk => hk.2) (.int .u8 t235)) (fun _ hk => hk.2) (.int .u32 t236)) (fun _ hk => hk.2) (.slice Ao30 t237.length co30)) (fun _ h_ => h_.1)))); (case side2 => exact (Kd.R_reads' HO239.out).2.1); (case side3 => exact Kd.C_nil _ _); (case side4 => exact Nat.le_refl _); rintro e w31 ⟨rfl, hb⟩; have n0_ := Aside0.mk (Kd.R_below (by (with_reducible repeat (first | apply Kd.R_alloc | apply Kd.R_drewN | apply Kd.R_drew)); exact (Kd.R_mono (Kd.R_far (p := ⟨gb241, 3, none⟩) (Kd.R_far (p := ⟨gb241, 2, none⟩) (Kd.R_far (p := ⟨gb241, 1, none⟩) (Kd.R_far (p := ⟨gb241, 0, none⟩) (Kd.R_types HO_5.out BK241.out (by decide)) (fun _ hk => hk.2) (.int .u8 t234)) (fun _ hk => hk.2) (.int .u8 t235)) (fun _ hk => hk.2) (.int .u32 t236)) (fun _ hk => hk.2) (.slice Ao30 t237.length co30)) (fun _ h_ => h_.1))) hb); have n1_ := Aside0.mk (Kd.R_below (by (with_reducible repeat (first | apply Kd.R_alloc | apply Kd.R_drewN | apply Kd.R_drew)); exact (Kd.R_mono (Kd.R_far (p := ⟨gb241, 3, none⟩) (Kd.R_far (p := ⟨gb241, 2, none⟩) (Kd.R_far (p := ⟨gb241, 1, none⟩) (Kd.R_far (p := ⟨gb241, 0, none⟩) (Kd.R_types HO239.out BK241.out (by decide)) (fun _ hk => hk.2) (.int .u8 t234)) (fun _ hk => hk.2) (.int .u8 t235)) (fun _ hk => hk.2) (.int .u32 t236)) (fun _ hk => hk.2) (.slice Ao30 t237.length co30)) (fun _ h_ => h_.1))) hb); have n2_ := Aside0.mk (blk_below (g := gb227) (o := .cells #[.int .u8 a0_0, .int .u8 a0_1, .int .u32 a0_2, .slice A0_3 l0_3.length c0_3] 25 (0, 0)) (by (with_reducible repeat (first | refine blk_drewN ?_ _ | refine blk_drew ?_ | refine blk_alloc ?_ _)); refine blk_far ?_ NB227_241.out _; (with_reducible repeat (first | refine blk_drewN ?_ _ | refine blk_drew ?_ | refine blk_alloc ?_ _)); refine blk_far ?_ NB227_241.out _; (with_reducible repeat (first | refine blk_drewN ?_ _ | refine blk_drew ?_ | refine blk_alloc ?_ _)); refine blk_far ?_ NB227_241.out _; (with_reducible repeat (first | refine blk_drewN ?_ _ | refine blk_drew ?_ | refine blk_alloc ?_ _)); refine blk_far ?_ NB227_241.out _; first | (with_reducible exact BK227.out) | (with_reducible exact blk_drewN BK227.out _) | (with_reducible exact blk_drew BK227.out) | ((with_reducible repeat (first | refine blk_drewN ?_ _ | refine blk_drew ?_ | refine blk_alloc ?_ _)); exact BK227.out)) hb); have n3_ := Aside0.mk (blk_below (g := gb241) (o := .cells #[.int .u8 t234, .int .u8 t235, .int .u32 t236, .slice Ao30 t237.length co30] 25 (0, 0)) (by (with_reducible repeat (first | refine blk_drewN ?_ _ | refine blk_drew ?_ | refine blk_alloc ?_ _)); refine blk_put (cs := #[.int .u8 t234, .int .u8 t235, .int .u32 t236, .slice none 0 0]) ?_ 3 _ rfl; (with_reducible repeat (first | refine blk_drewN ?_ _ | refine blk_drew ?_ | refine blk_alloc ?_ _)); refine blk_put (cs := #[.int .u8 t234, .int .u8 t235, .int .u32 0, .slice none 0 0]) ?_ 2 _ rfl; (with_reducible repeat (first | refine blk_drewN ?_ _ | refine blk_drew ?_ | refine blk_alloc ?_ _)); refine blk_put (cs := #[.int .u8 t234, .int .u8 0, .int .u32 0, .slice none 0 0]) ?_ 1 _ rfl; (with_reducible repeat (first | refine blk_drewN ?_ _ | refine blk_drew ?_ | refine blk_alloc ?_ _)); refine blk_put (cs := #[.int .u8 0, .int .u8 0, .int .u32 0, .slice none 0 0]) ?_ 0 _ rfl; first | (with_reducible exact BK241.out) | (with_reducible exact blk_drewN BK241.out _) | (with_reducible exact blk_drew BK241.out) | ((with_reducible repeat (first | refine blk_drewN ?_ _ | refine blk_drew ?_ | refine blk_alloc ?_ _)); exact BK241.out)) hb); have n4_ := Aside0.mk (below_step (by repeat (first | (with_reducible first | exact HB.out | apply below_alloc | apply pw_below_drewN | apply below_drew1 | refine below_set ?_ GE227.out | refine below_set ?_ GE241.out) | exact HB.out)) hb); clear HO_5; clear HO239; clear BK227; clear BK241; clear HB; have HO_5 := n0_; have HO239 := n1_; have BK227 := n2_; have BK241 := n3_; have HB := n4_; clear n0_ n1_ n2_ n3_ n4_; (try clear hb); (try clear hb2); (try clear hk); (try clear hi)))
                  go_ret
                  exact ⟨by first | rfl | (simp [errW_none, errW_some] <;> rfl) | (simp only [← hji12, ← hji15, ← hji17]; first | rfl | (simp [errW_none, errW_some] <;> rfl)) | (simp [*, errW_none, errW_some] <;> rfl), by repeat (first | (with_reducible first | exact HB.out | apply below_alloc | apply pw_below_drewN | apply below_drew1 | refine below_set ?_ GE227.out | refine below_set ?_ GE241.out) | exact HB.out)⟩
                · rw [if_neg c20] at H
                  have c20b0 : (t240 == 33) = false := beq_eq_false_iff_ne.mpr c20
                  have c20b1 : (t240 != 33) = true := bne_iff_ne.mpr c20
                  obtain rfl := Option.some.inj H
                  obtain ⟨Ao32, co32, eo32⟩ := Kd.R_slice HO_5.out
                  subst eo32
                  try go_wp2
                  have n0_ := Aside0.mk (Kd.R_drew HO_5.out)
                  have n1_ := Aside0.mk (blk_drew BK227.out)
                  have n2_ := Aside0.mk (below_drew1 HB.out)
                  clear HO_5
                  clear BK227
                  clear HB
                  have HO_5 := n0_
                  have BK227 := n1_
                  have HB := n2_
                  clear n0_ n1_ n2_
                  have p232 : 0 ≤ ((ji12) : Int) := of_decide_eq_true (by first | (with_reducible assumption) | assumption)
                  have q232 : (ji12) < (t228.length : Int) := of_decide_eq_true (by first | (with_reducible assumption) | assumption)
                  obtain ⟨ad232, e232, hx232_0⟩ := Kd.at_int (Kd.R_reads' HO_5.out).2.2 (ji12) p232 q232
                  cases e232
                  replace p232 := eq_true p232
                  replace q232 := eq_true q232
                  have p18 : 0 ≤ ((ji12) : Int) := of_decide_eq_true (by first | (with_reducible assumption) | assumption)
                  have q18 : ((ji12) : Int) < ((t228.length : Int) : Int) := of_decide_eq_true (by first | (with_reducible assumption) | assumption)
                  obtain ⟨go18, co18, eo18, gb18, gl18, cl18, HG18⟩ := Kd.R_form HO_5.out (by omega)
                  (first | cases eo18 | (injection eo18 with ea_ en_ ec_; (first | subst ea_ | (injection ea_ with ea_; subst ea_)); subst ec_; clear en_))
                  have GB18 := Aside0.mk gb18
                  have GG18 := Aside0.mk HG18
                  clear gb18 gl18 HG18
                  (first | simp only [add_plain] at hx232_0 | skip)
                  obtain ⟨hx18_0, hf18_0⟩ := Kd.R_celln 0 HO_5.out ((ji12) : Int) p18 q18
                  replace p18 := eq_true p18
                  replace q18 := eq_true q18
                  have HP34 := Kd.R_putn HO_5.out ((ji12) : Int) (Go.bits .xor .u8 (rd t228 (ji12)) (ji17))
                  rw [← Ny233.out] at HP34
                  have HQ34 := Aside0.mk HP34
                  clear HP34
                  refine start_ (n := 14) (S := fun w' => w'.cell? ⟨go18, ((ji12)).toNat, none⟩ = some (.int .u8 (rd t228 (ji12)))) (ds := [13]) #[false, false, false, false, false, false, false, false, false, false, false, false, false, false] (by kernel_rfl) rfl rfl (hx232_0) (fun hHeld => ?_); refine with_tabW weftlaw6_flip.tab5 weftlaw6_flip.bits5 (fun HT_ HW_ => ?_)
                  generalize wc.drew = w33 at HO_5 BK227 HB GG18 HQ34 hf18_0 hx18_0 hx232_0 hHeld ⊢
                  refine pure_ (i := 0) (N := some 28) (v := ?_) (a' := ?_) #[true, false, false, false, false, false, false, false, false, false, false, false, false, false] rfl rfl (any_of HT_.out (by kernel_rfl)) (fun _ _ _ h => h) (Or.inl ⟨by rfl, ?_⟩) ?_ ?_
                  rotate_left
                  · intro w'
                    go_simp
                    with_reducible rfl
                  rotate_left
                  · simp only [Act.put, List.setIfInBounds_toArray, List.set_cons_zero, List.set_cons_succ, i64_w, i32_w, IntKind.wrap_u8, IntKind.wrap_u32]
                    rfl
                  refine pure_ (i := 1) (N := some 29) (v := ?_) (a' := ?_) #[true, true, false, false, false, false, false, false, false, false, false, false, false, false] rfl rfl (any_of HT_.out (by kernel_rfl)) (fun _ _ _ h => h) (Or.inl ⟨by rfl, ?_⟩) ?_ ?_
                  rotate_left
                  · intro w'
                    go_simp
                    with_reducible rfl
                  rotate_left
                  · simp only [Act.put, List.setIfInBounds_toArray, List.set_cons_zero, List.set_cons_succ, i64_w, i32_w, IntKind.wrap_u8, IntKind.wrap_u32]
                    rfl
                  refine pure_ (i := 2) (N := some 30) (v := ?_) (a' := ?_) #[true, true, true, false, false, false, false, false, false, false, false, false, false, false] rfl rfl (any_of HT_.out (by kernel_rfl)) (fun _ _ _ h => h) (Or.inl ⟨by rfl, ?_⟩) ?_ ?_
                  rotate_left
                  · intro w'
                    go_simp
                    with_reducible rfl
                  rotate_left
                  · simp only [Act.put, List.setIfInBounds_toArray, List.set_cons_zero, List.set_cons_succ, i64_w, i32_w, IntKind.wrap_u8, IntKind.wrap_u32]
                    rfl
                  refine pure_ (i := 3) (N := some 31) (v := ?_) (a' := ?_) #[true, true, true, true, false, false, false, false, false, false, false, false, false, false] rfl rfl (any_of HT_.out (by kernel_rfl)) (fun _ _ _ h => h) (Or.inl ⟨by rfl, ?_⟩) ?_ ?_
                  rotate_left
                  · intro w'
                    go_simp
                    with_reducible rfl
                  rotate_left
                  · simp only [Act.put, List.setIfInBounds_toArray, List.set_cons_zero, List.set_cons_succ, i64_w, i32_w, IntKind.wrap_u8, IntKind.wrap_u32]
                    rfl
                  refine pure_ (i := 4) (N := some 32) (v := ?_) (a' := ?_) #[true, true, true, true, true, false, false, false, false, false, false, false, false, false] rfl rfl (any_of HT_.out (by kernel_rfl)) (fun _ _ _ h => h) (Or.inl ⟨by rfl, ?_⟩) ?_ ?_
                  rotate_left
                  · intro w'
                    go_simp
                    with_reducible rfl
                  rotate_left
                  · simp only [Act.put, List.setIfInBounds_toArray, List.set_cons_zero, List.set_cons_succ, i64_w, i32_w, IntKind.wrap_u8, IntKind.wrap_u32]
                    rfl
                  refine pure_ (i := 5) (N := some 33) (v := ?_) (a' := ?_) #[true, true, true, true, true, true, false, false, false, false, false, false, false, false] rfl rfl (any_of HT_.out (by kernel_rfl)) (fun _ _ _ h => h) (Or.inl ⟨by rfl, ?_⟩) ?_ ?_
                  rotate_left
                  · intro w'
                    go_simp
                    with_reducible rfl
                  rotate_left
                  · simp only [Act.put, List.setIfInBounds_toArray, List.set_cons_zero, List.set_cons_succ, i64_w, i32_w, IntKind.wrap_u8, IntKind.wrap_u32]
                    rfl
                  refine pure_ (i := 6) (N := some 34) (v := ?_) (a' := ?_) #[true, true, true, true, true, true, true, false, false, false, false, false, false, false] rfl rfl (any_of HT_.out (by kernel_rfl)) (fun _ _ _ h => h) (Or.inl ⟨by rfl, ?_⟩) ?_ ?_
                  rotate_left
                  · intro w'
                    go_simp
                    with_reducible rfl
                  rotate_left
                  · simp only [Act.put, List.setIfInBounds_toArray, List.set_cons_zero, List.set_cons_succ, i64_w, i32_w, IntKind.wrap_u8, IntKind.wrap_u32]
                    rfl
                  refine pure_ (i := 8) (N := some 36) (v := ?_) (a' := ?_) #[true, true, true, true, true, true, true, false, true, false, false, false, false, false] rfl rfl (any_of HT_.out (by kernel_rfl)) (fun _ _ _ h => h) (Or.inl ⟨by rfl, ?_⟩) ?_ ?_
                  rotate_left
                  · intro w'
                    go_simp
                    with_reducible rfl
                  rotate_left
                  · simp only [Act.put, List.setIfInBounds_toArray, List.set_cons_zero, List.set_cons_succ, i64_w, i32_w, IntKind.wrap_u8, IntKind.wrap_u32]
                    rfl
                  refine pure_ (i := 9) (N := some 37) (v := ?_) (a' := ?_) #[true, true, true, true, true, true, true, false, true, true, false, false, false, false] rfl rfl (any_of HT_.out (by kernel_rfl)) (fun _ _ _ h => h) (Or.inl ⟨by rfl, ?_⟩) ?_ ?_
                  rotate_left
                  · intro w'
                    go_simp
                    with_reducible rfl
                  rotate_left
                  · simp only [Act.put, List.setIfInBounds_toArray, List.set_cons_zero, List.set_cons_succ, i64_w, i32_w, IntKind.wrap_u8, IntKind.wrap_u32]
                    rfl
                  refine pure_ (i := 10) (N := some 38) (v := ?_) (a' := ?_) #[true, true, true, true, true, true, true, false, true, true, true, false, false, false] rfl rfl (any_of HT_.out (by kernel_rfl)) (fun _ _ _ h => h) (Or.inl ⟨by rfl, ?_⟩) ?_ ?_
                  rotate_left
                  · intro w'
                    go_simp
                    with_reducible rfl
                  rotate_left
                  · simp only [Act.put, List.setIfInBounds_toArray, List.set_cons_zero, List.set_cons_succ, i64_w, i32_w, IntKind.wrap_u8, IntKind.wrap_u32]
                    rfl
                  refine take_ (i := 7) (N := some 35) (v := ?_) (a' := ?_) #[true, true, true, true, true, true, true, true, true, true, true, false, false, false] rfl rfl (take_ofW HT_.out HW_.out (by kernel_rfl)) (fun _ _ _ h => h) (Or.inl ⟨by rfl, ?_⟩) hHeld ?_ ?_
                  rotate_left
                  · intro w' s0
                    go_simp
                    with_reducible rfl
                  rotate_left
                  · simp only [Act.put, List.setIfInBounds_toArray, List.set_cons_zero, List.set_cons_succ, i64_w, i32_w, IntKind.wrap_u8, IntKind.wrap_u32]
                    rfl
                  refine pure_ (i := 11) (N := some 39) (v := ?_) (a' := ?_) #[true, true, true, true, true, true, true, true, true, true, true, true, false, false] rfl rfl (any_of HT_.out (by kernel_rfl)) (fun _ _ _ h => h) (Or.inl ⟨by rfl, ?_⟩) ?_ ?_
                  rotate_left
                  · intro w'
                    go_simp
                    with_reducible rfl
                  rotate_left
                  · simp only [Act.put, List.setIfInBounds_toArray, List.set_cons_zero, List.set_cons_succ, i64_w, i32_w, IntKind.wrap_u8, IntKind.wrap_u32]
                    rfl
                  refine pure_ (i := 12) (N := some 40) (v := ?_) (a' := ?_) #[true, true, true, true, true, true, true, true, true, true, true, true, true, false] rfl rfl (any_of HT_.out (by kernel_rfl)) (fun _ _ _ h => h) (Or.inl ⟨by rfl, ?_⟩) ?_ ?_
                  rotate_left
                  · intro w'
                    go_simp
                    with_reducible rfl
                  rotate_left
                  · simp only [Act.put, List.setIfInBounds_toArray, List.set_cons_zero, List.set_cons_succ, i64_w, i32_w, IntKind.wrap_u8, IntKind.wrap_u32]
                    rfl
                  refine last_ (i := 13) (N := none) #[true, true, true, true, true, true, true, true, true, true, true, true, true, true] rfl rfl (one_of HT_.out (by kernel_rfl)) (by decide) (fun K hK => ?_)
                  refine skip_ (w1 := ?_) (by rfl) rfl ?_ ?_
                  rotate_left
                  · go_simp
                    rfl
                  refine hK.out _ _ ?_
                  clear hK K
                  refine done_ (done_of HT_.out (by kernel_rfl)) ?_
                  have n0_ : Aside0 (Kd.R (Kd.int .u8) 5 (w33.setCell ⟨go18, ((ji12) : Int).toNat, none⟩ (.int .u8 (Go.bits .xor .u8 (rd t228 (ji12)) (ji17)))) w.heap.size (fun _ => True) (.slice (some ⟨go18, 0, none⟩) t228.length co32) y233) := ⟨by (with_reducible repeat (first | apply Kd.R_alloc | apply Kd.R_drewN | apply Kd.R_drew)); exact HQ34.out⟩
                  have n1_ : Aside0 ((w33.setCell ⟨go18, ((ji12) : Int).toNat, none⟩ (.int .u8 (Go.bits .xor .u8 (rd t228 (ji12)) (ji17)))).heap[gb227]? = some (.cells #[.int .u8 a0_0, .int .u8 a0_1, .int .u32 a0_2, .slice A0_3 l0_3.length c0_3] 25 (0, 0))) := ⟨by (with_reducible repeat (first | refine blk_drewN ?_ _ | refine blk_drew ?_ | refine blk_alloc ?_ _)); refine blk_far ?_ (by have h_ := Kd.R_ne HO_5.out BK227.out (by decide); intro e_; exact h_ (by rw [e_]; rfl)) _; first | (with_reducible exact BK227.out) | (with_reducible exact blk_drewN BK227.out _) | (with_reducible exact blk_drew BK227.out) | ((with_reducible repeat (first | refine blk_drewN ?_ _ | refine blk_drew ?_ | refine blk_alloc ?_ _)); exact BK227.out)⟩
                  have n2_ : Aside0 (Below w.heap.size w (w33.setCell ⟨go18, ((ji12) : Int).toNat, none⟩ (.int .u8 (Go.bits .xor .u8 (rd t228 (ji12)) (ji17))))) := ⟨by repeat (first | (with_reducible first | exact HB.out | apply below_alloc | apply pw_below_drewN | apply below_drew1 | refine below_set ?_ GB18.out | refine below_set ?_ GE227.out) | exact HB.out)⟩
                  (try clear HO_5)
                  (try clear BK227)
                  (try clear HB)
                  generalize (w33.setCell ⟨go18, ((ji12) : Int).toNat, none⟩ (.int .u8 (Go.bits .xor .u8 (rd t228 (ji12)) (ji17)))) = w35 at n0_ n1_ n2_ ⊢
                  have HO_5 := n0_
                  have BK227 := n1_
                  have HB := n2_
                  clear n0_ n1_ n2_
                  try go_wp2_with (first | ((with_reducible refine gate_callee (f := 19) rfl ?_); refine goesL_ (some 43) rfl rfl Try.func19 (by kernel_rfl) rfl #[.slice (some ⟨go18, 0, none⟩) y233.length co32] rfl (by (try simp only [List.map_toArray, List.map_cons, List.map_nil]); first | done | (rw [show y233.length = t228.length from (Kd.R_reads' HO_5.out).1.symm] <;> rfl) | rfl | (simp only [List.length_drop, List.length_take]; rfl)) ?_; (with_reducible refine (icmp_Parse.calls kj3 _ _ y233 t234 t235 t236 t237 t240 _ ?side1 ?side2 A19.out).mono ?_); (case side1 => repeat (first | exact (Kd.R_reads' HO_5.out).2.2 | (with_reducible refine Kd.C_alloc ?_ _) | (with_reducible refine Kd.C_drewN ?_ _) | (with_reducible refine Kd.C_drew ?_))); (case side2 => rw [show y233.length = t228.length from (Kd.R_reads' HO_5.out).1.symm]; exact (Kd.R_reads' HO_5.out).2.1); rintro e w36 ⟨v238, rfl, ho0, hb⟩; refine ⟨_, rfl, ?_⟩; have n0_ := Aside0.mk (Kd.R_elder' (by (with_reducible repeat (first | apply Kd.R_alloc | apply Kd.R_drewN | apply Kd.R_drew)); exact HO_5.out) (Kd.R_base ho0) hb); have n1_ := Aside0.mk (Kd.R_lower (Kd.R_new' ho0 (Kd.R_lt (by (with_reducible repeat (first | apply Kd.R_alloc | apply Kd.R_drewN | apply Kd.R_drew)); exact HO_5.out))) (below_size zq4_3)); have n2_ := Aside0.mk (blk_below (g := gb227) (o := .cells #[.int .u8 a0_0, .int .u8 a0_1, .int .u32 a0_2, .slice A0_3 l0_3.length c0_3] 25 (0, 0)) zq4_2 hb); have n3_ := Aside0.mk (below_step zq4_3 hb); clear HO_5; clear BK227; clear HB; have HO_5 := n0_; have HO239 := n1_; have BK227 := n2_; have HB := n3_; clear n0_ n1_ n2_ n3_; (try clear hb); (try clear hb2); (try clear hk); (try clear hi); (try clear ho0)) | ((with_reducible refine gate_dst (N := 7) rfl ?_); (try (refine gate_guard (by rfl) ?_; dsimp only)); refine box_event ?hg (N := 7) ?hd (cs := #[.int .u8 0, .int .u8 0, .int .u32 0, .slice none 0 0]) (t := 25) ?hr ?_; (case hd => rfl); (case hg => rfl); (case hr => first | (go_simp; done) | (go_simp; rfl)); intro gb241 hg w37 hbox hb; have n0_ := Aside0.mk (Kd.R_below (by (with_reducible repeat (first | apply Kd.R_alloc | apply Kd.R_drewN | apply Kd.R_drew)); exact HO_5.out) hb); have n1_ := Aside0.mk (Kd.R_below (by (with_reducible repeat (first | apply Kd.R_alloc | apply Kd.R_drewN | apply Kd.R_drew)); exact HO239.out) hb); have n2_ := Aside0.mk (blk_below (g := gb227) (o := .cells #[.int .u8 a0_0, .int .u8 a0_1, .int .u32 a0_2, .slice A0_3 l0_3.length c0_3] 25 (0, 0)) zq4_2 hb); have n3_ := Aside0.mk (below_step zq4_3 hb); have n4_ := Aside0.mk (hbox); have n5_ := Aside0.mk ((by rw [hg]; exact (below_size zq4_3) : w.heap.size ≤ gb241)); have n6_ := Aside0.mk ((by rw [hg]; exact (below_size zq4_3) : w.heap.size ≤ gb241)); have n7_ := Aside0.mk ((by rw [hg]; exact Nat.ne_of_lt (blk_lt (g := gb227) (o := .cells #[.int .u8 a0_0, .int .u8 a0_1, .int .u32 a0_2, .slice A0_3 l0_3.length c0_3] 25 (0, 0)) zq4_2) : gb227 ≠ gb241)); have n8_ := Aside0.mk ((by rw [hg]; exact Nat.ne_of_gt (blk_lt (g := gb227) (o := .cells #[.int .u8 a0_0, .int .u8 a0_1, .int .u32 a0_2, .slice A0_3 l0_3.length c0_3] 25 (0, 0)) zq4_2) : gb241 ≠ gb227)); clear HO_5; clear HO239; clear BK227; clear HB; have HO_5 := n0_; have HO239 := n1_; have BK227 := n2_; have HB := n3_; have BK241 := n4_; have GW241 := n5_; have GE241 := n6_; have NB227_241 := n7_; have NB241_227 := n8_; clear n0_ n1_ n2_ n3_ n4_ n5_ n6_ n7_ n8_; clear hb hbox hg; have hnb38 := NB241_227.out; have hnc38 := NB227_241.out; have hcz39_0 : w37.cell? ⟨gb241, 0, none⟩ = some (.int .u8 0) := (blk_cell BK241.out 0).trans rfl; have hcz39_1 : w37.cell? ⟨gb241, 1, none⟩ = some (.int .u8 0) := (blk_cell BK241.out 1).trans rfl; have hcz39_2 : w37.cell? ⟨gb241, 2, none⟩ = some (.int .u32 0) := (blk_cell BK241.out 2).trans rfl; have hcz39_3 : w37.cell? ⟨gb241, 3, none⟩ = some (.slice none 0 0) := (blk_cell BK241.out 3).trans rfl; have hfz39_0 := blk_frozen BK241.out 0; have hfz39_1 := blk_frozen BK241.out 1; have hfz39_2 := blk_frozen BK241.out 2; have hfz39_3 := blk_frozen BK241.out 3; obtain ⟨Ao40, co40, eo40⟩ := Kd.R_slice HO239.out; subst eo40))
                  go_ret
                  exact ⟨by first | rfl | (simp [errW_none, errW_some] <;> rfl) | (simp only [← hji12, ← hji15, ← hji17]; first | rfl | (simp [errW_none, errW_some] <;> rfl)) | (simp [*, errW_none, errW_some] <;> rfl), by repeat (first | (with_reducible first | exact HB.out | apply below_alloc | apply pw_below_drewN | apply below_drew1 | refine below_set ?_ GE227.out | refine below_set ?_ GE241.out) | exact HB.out)⟩
              · rw [if_neg c16] at H
                exact absurd H (by simp)
            · rw [if_neg c14] at H
              exact absurd H (by simp)
          · rw [if_neg c13] at H
            exact absurd H (by simp)

/-! ### weftlaw6_IcmpFlipTold: function 4 -/
def weftlaw6_IcmpFlipTold.f (k : Nat) (a0_0 : Int) (a0_1 : Int) (a0_2 : Int) (l0_3 : List Int) (a1 : Int) : Option (Bool) := if a1 < 0 then ((weftlaw6_there.f k 8 0 0 ([] : List Int)).bind fun t244 => (if t244 = true then ((weftlaw6_flip.f k 8 0 0 ([] : List Int) (wrap64 (-(wrap64 (a1 + 1))))).bind fun t245 => (if t245 = true then ((weftlaw6_flip.f k a0_0 a0_1 a0_2 l0_3 (wrap64 (-(wrap64 (a1 + 1))))).bind fun t246 => (some t246)) else (some false))) else (some false))) else ((weftlaw6_there.f k 8 0 0 ([] : List Int)).bind fun t247 => (if t247 = true then ((weftlaw6_flip.f k 8 0 0 ([] : List Int) a1).bind fun t248 => (if t248 = true then ((weftlaw6_flip.f k a0_0 a0_1 a0_2 l0_3 a1).bind fun t249 => (some t249)) else (some false))) else (some false)))
set_option maxHeartbeats 8000000 in
set_option maxRecDepth 100000 in
theorem weftlaw6_IcmpFlipTold.calls (k : Nat) (a0_0 : Int) (a0_1 : Int) (a0_2 : Int) (A0_3 : Option Addr) (c0_3 : Nat) (l0_3 : List Int) (a1 : Int) (r : Bool) (w : World) (hr0_3 : Kd.C (Kd.int .u8) w A0_3 l0_3.length l0_3) (hc0_3 : l0_3.length ≤ c0_3) (h : weftlaw6_IcmpFlipTold.f k a0_0 a0_1 a0_2 l0_3 a1 = some r) :
    Calls Try.prog 4 #[.agg #[.int .u8 a0_0, .int .u8 a0_1, .int .u32 a0_2, .slice A0_3 l0_3.length c0_3], .int .i64 a1] w fun e w' => e = .returned (.bool r) ∧ Below w.heap.size w w' := by
  have hu25 := Try.underlying25
  have HR0_3 := Aside0.mk hr0_3
  have HC0_3 := Aside0.mk hc0_3
  clear hr0_3 hc0_3
  have HB := Aside0.mk (Below.refl w.heap.size w)
  have H : (if a1 < 0 then ((weftlaw6_there.f k 8 0 0 ([] : List Int)).bind fun t244 => (if t244 = true then ((weftlaw6_flip.f k 8 0 0 ([] : List Int) (wrap64 (-(wrap64 (a1 + 1))))).bind fun t245 => (if t245 = true then ((weftlaw6_flip.f k a0_0 a0_1 a0_2 l0_3 (wrap64 (-(wrap64 (a1 + 1))))).bind fun t246 => (some t246)) else (some false))) else (some false))) else ((weftlaw6_there.f k 8 0 0 ([] : List Int)).bind fun t247 => (if t247 = true then ((weftlaw6_flip.f k 8 0 0 ([] : List Int) a1).bind fun t248 => (if t248 = true then ((weftlaw6_flip.f k a0_0 a0_1 a0_2 l0_3 a1).bind fun t249 => (some t249)) else (some false))) else (some false)))) = some r := h
  clear h
  by_cases c3 : a1 < 0
  · rw [if_pos c3] at H
    have c3b0 : decide (a1 < 0) = true := decide_eq_true c3
    clear c3
    replace H := Option.bind_eq_some_iff.mp H
    obtain ⟨t244, A40, H⟩ := H
    replace H : (if t244 = true then ((weftlaw6_flip.f k 8 0 0 ([] : List Int) (wrap64 (-(wrap64 (a1 + 1))))).bind fun t245 => (if t245 = true then ((weftlaw6_flip.f k a0_0 a0_1 a0_2 l0_3 (wrap64 (-(wrap64 (a1 + 1))))).bind fun t246 => (some t246)) else (some false))) else (some false)) = some r := H
    have A4 := Aside0.mk A40
    clear A40
    by_cases c5 : t244 = true
    · subst c5
      have H1 : ((weftlaw6_flip.f k 8 0 0 ([] : List Int) (wrap64 (-(wrap64 (a1 + 1))))).bind fun t245 => (if t245 = true then ((weftlaw6_flip.f k a0_0 a0_1 a0_2 l0_3 (wrap64 (-(wrap64 (a1 + 1))))).bind fun t246 => (some t246)) else (some false))) = some r := by rw [if_pos rfl] at H; exact H
      clear H
      have H := H1
      clear H1
      replace H := Option.bind_eq_some_iff.mp H
      obtain ⟨t245, A60, H⟩ := H
      replace H : (if t245 = true then ((weftlaw6_flip.f k a0_0 a0_1 a0_2 l0_3 (wrap64 (-(wrap64 (a1 + 1))))).bind fun t246 => (some t246)) else (some false)) = some r := H
      have A6 := Aside0.mk A60
      clear A60
      by_cases c7 : t245 = true
      · subst c7
        have H1 : ((weftlaw6_flip.f k a0_0 a0_1 a0_2 l0_3 (wrap64 (-(wrap64 (a1 + 1))))).bind fun t246 => (some t246)) = some r := by rw [if_pos rfl] at H; exact H
        clear H
        have H := H1
        clear H1
        replace H := Option.bind_eq_some_iff.mp H
        obtain ⟨t246, A80, H⟩ := H
        replace H : (some t246) = some r := H
        have A8 := Aside0.mk A80
        clear A80
        obtain rfl := Option.some.inj H
        go_enter Try.func4, Try.ntmps4
        go_wp2_with (first | ((with_reducible refine gate_dst (N := 2) rfl ?_); refine box_event ?hg (N := 2) ?hd (cs := #[.int .u8 a0_0, .int .u8 a0_1, .int .u32 a0_2, .slice A0_3 l0_3.length c0_3]) (t := 25) ?hr ?_; (case hd => rfl); (case hg => rfl); (case hr => first | (go_simp; done) | (go_simp; rfl)); intro gb243 hg w9 hbox hb; have n0_ := Aside0.mk (below_step zq4_1 hb); have n1_ := Aside0.mk (hbox); have n2_ := Aside0.mk ((by rw [hg]; exact (below_size zq4_1) : w.heap.size ≤ gb243)); have n3_ := Aside0.mk ((by rw [hg]; exact (below_size zq4_1) : w.heap.size ≤ gb243)); clear HB; have HB := n0_; have BK243 := n1_; have GW243 := n2_; have GE243 := n3_; clear n0_ n1_ n2_ n3_; clear hb hbox hg) | ((with_reducible refine gate_callee (f := 13) rfl ?_); refine goesL_ (some 11) rfl rfl Try.func13 (by kernel_rfl) rfl #[.agg #[.int .u8 8, .int .u8 0, .int .u32 0, .slice none 0 0]] rfl zq4_5 ?_; (refine (weftlaw6_there.calls k 8 0 0 _ _ ([] : List Int) true _ ?side1 ?side2 A4.out).mono ?_); (case side1 => exact Kd.C_nil _ _); (case side2 => exact Nat.le_refl _); rintro e w10 ⟨rfl, hb⟩; refine ⟨_, rfl, ?_⟩; have n0_ := Aside0.mk (blk_below (g := gb243) (o := .cells #[.int .u8 a0_0, .int .u8 a0_1, .int .u32 a0_2, .slice A0_3 l0_3.length c0_3] 25 (0, 0)) zq4_0 hb); have n1_ := Aside0.mk (below_step zq4_4 hb); clear BK243; clear HB; have BK243 := n0_; have HB := n1_; clear n0_ n1_; (try clear hb); (try clear hb2); (try clear hk); (try clear hi)) | (go_at_call 16; refine calls_of_args (args' := #[.agg #[.int .u8 8, .int .u8 0, .int .u32 0, .slice none ([] : List Int).length 0], .int .i64 (wrap64 (-(wrap64 (a1 + 1))))]) (by rfl) ?_; (with_reducible refine (weftlaw6_flip.calls k 8 0 0 _ _ ([] : List Int) (wrap64 (-(wrap64 (a1 + 1)))) true _ ?side1 ?side2 A6.out).mono ?_); (case side1 => exact Kd.C_nil _ _); (case side2 => exact Nat.le_refl _); rintro e w11 ⟨rfl, hb⟩; have n0_ := Aside0.mk (blk_below (g := gb243) (o := .cells #[.int .u8 a0_0, .int .u8 a0_1, .int .u32 a0_2, .slice A0_3 l0_3.length c0_3] 25 (0, 0)) zq4_0 hb); have n1_ := Aside0.mk (below_step zq4_4 hb); clear BK243; clear HB; have BK243 := n0_; have HB := n1_; clear n0_ n1_; (try clear hb); (try clear hb2); (try clear hk); (try clear hi); have hcz12_0 : w11.cell? ⟨gb243, 0, none⟩ = some (.int .u8 a0_0) := (blk_cell BK243.out 0).trans rfl; have hcz12_1 : w11.cell? ⟨gb243, 1, none⟩ = some (.int .u8 a0_1) := (blk_cell BK243.out 1).trans rfl; have hcz12_2 : w11.cell? ⟨gb243, 2, none⟩ = some (.int .u32 a0_2) := (blk_cell BK243.out 2).trans rfl; have hcz12_3 : w11.cell? ⟨gb243, 3, none⟩ = some (.slice A0_3 l0_3.length c0_3) := (blk_cell BK243.out 3).trans rfl; have hfz12_0 := blk_frozen BK243.out 0; have hfz12_1 := blk_frozen BK243.out 1; have hfz12_2 := blk_frozen BK243.out 2; have hfz12_3 := blk_frozen BK243.out 3) | (go_at_call 16; (with_reducible refine (weftlaw6_flip.calls k a0_0 a0_1 a0_2 _ _ l0_3 (wrap64 (-(wrap64 (a1 + 1)))) t246 _ ?side1 ?side2 A8.out).mono ?_); (case side1 => repeat (first | exact (Kd.C_below HR0_3.out HB.out) | (with_reducible refine Kd.C_alloc ?_ _) | (with_reducible refine Kd.C_drewN ?_ _) | (with_reducible refine Kd.C_drew ?_))); (case side2 => exact HC0_3.out); rintro e w13 ⟨rfl, hb⟩; have n0_ := Aside0.mk (blk_below (g := gb243) (o := .cells #[.int .u8 a0_0, .int .u8 a0_1, .int .u32 a0_2, .slice A0_3 l0_3.length c0_3] 25 (0, 0)) zq4_0 hb); have n1_ := Aside0.mk (below_step zq4_4 hb); clear BK243; clear HB; have BK243 := n0_; have HB := n1_; clear n0_ n1_; (try clear hb); (try clear hb2); (try clear hk); (try clear hi)))
        go_ret
        exact ⟨by first | rfl | (simp [errW_none, errW_some] <;> rfl) | (simp [*, errW_none, errW_some] <;> rfl), by repeat (first | (with_reducible first | exact HB.out | apply below_alloc | apply pw_below_drewN | apply below_drew1 | refine below_set ?_ GE243.out) | exact HB.out)⟩
      · replace c7 := Bool.eq_false_iff.mpr c7
        subst c7
        have H1 : (some false) = some r := by rw [if_neg (show ¬ (false = true) by decide)] at H; exact H
        clear H
        have H := H1
        clear H1
        obtain rfl := Option.some.inj H
        go_enter Try.func4, Try.ntmps4
        go_wp2_with (first | ((with_reducible refine gate_dst (N := 2) rfl ?_); refine box_event ?hg (N := 2) ?hd (cs := #[.int .u8 a0_0, .int .u8 a0_1, .int .u32 a0_2, .slice A0_3 l0_3.length c0_3]) (t := 25) ?hr ?_; (case hd => rfl); (case hg => rfl); (case hr => first | (go_simp; done) | (go_simp; rfl)); intro gb243 hg w14 hbox hb; have n0_ := Aside0.mk (below_step zq4_1 hb); have n1_ := Aside0.mk (hbox); have n2_ := Aside0.mk ((by rw [hg]; exact (below_size zq4_1) : w.heap.size ≤ gb243)); have n3_ := Aside0.mk ((by rw [hg]; exact (below_size zq4_1) : w.heap.size ≤ gb243)); clear HB; have HB := n0_; have BK243 := n1_; have GW243 := n2_; have GE243 := n3_; clear n0_ n1_ n2_ n3_; clear hb hbox hg) | ((with_reducible refine gate_callee (f := 13) rfl ?_); refine goesL_ (some 11) rfl rfl Try.func13 (by kernel_rfl) rfl #[.agg #[.int .u8 8, .int .u8 0, .int .u32 0, .slice none 0 0]] rfl zq4_5 ?_; (refine (weftlaw6_there.calls k 8 0 0 _ _ ([] : List Int) true _ ?side1 ?side2 A4.out).mono ?_); (case side1 => exact Kd.C_nil _ _); (case side2 => exact Nat.le_refl _); rintro e w15 ⟨rfl, hb⟩; refine ⟨_, rfl, ?_⟩; have n0_ := Aside0.mk (blk_below (g := gb243) (o := .cells #[.int .u8 a0_0, .int .u8 a0_1, .int .u32 a0_2, .slice A0_3 l0_3.length c0_3] 25 (0, 0)) zq4_0 hb); have n1_ := Aside0.mk (below_step zq4_4 hb); clear BK243; clear HB; have BK243 := n0_; have HB := n1_; clear n0_ n1_; (try clear hb); (try clear hb2); (try clear hk); (try clear hi)) | (go_at_call 16; refine calls_of_args (args' := #[.agg #[.int .u8 8, .int .u8 0, .int .u32 0, .slice none ([] : List Int).length 0], .int .i64 (wrap64 (-(wrap64 (a1 + 1))))]) (by rfl) ?_; (with_reducible refine (weftlaw6_flip.calls k 8 0 0 _ _ ([] : List Int) (wrap64 (-(wrap64 (a1 + 1)))) false _ ?side1 ?side2 A6.out).mono ?_); (case side1 => exact Kd.C_nil _ _); (case side2 => exact Nat.le_refl _); rintro e w16 ⟨rfl, hb⟩; have n0_ := Aside0.mk (blk_below (g := gb243) (o := .cells #[.int .u8 a0_0, .int .u8 a0_1, .int .u32 a0_2, .slice A0_3 l0_3.length c0_3] 25 (0, 0)) zq4_0 hb); have n1_ := Aside0.mk (below_step zq4_4 hb); clear BK243; clear HB; have BK243 := n0_; have HB := n1_; clear n0_ n1_; (try clear hb); (try clear hb2); (try clear hk); (try clear hi)))
        go_ret
        exact ⟨by first | rfl | (simp [errW_none, errW_some] <;> rfl) | (simp [*, errW_none, errW_some] <;> rfl), by repeat (first | (with_reducible first | exact HB.out | apply below_alloc | apply pw_below_drewN | apply below_drew1 | refine below_set ?_ GE243.out) | exact HB.out)⟩
    · replace c5 := Bool.eq_false_iff.mpr c5
      subst c5
      have H1 : (some false) = some r := by rw [if_neg (show ¬ (false = true) by decide)] at H; exact H
      clear H
      have H := H1
      clear H1
      obtain rfl := Option.some.inj H
      go_enter Try.func4, Try.ntmps4
      go_wp2_with (first | ((with_reducible refine gate_dst (N := 2) rfl ?_); refine box_event ?hg (N := 2) ?hd (cs := #[.int .u8 a0_0, .int .u8 a0_1, .int .u32 a0_2, .slice A0_3 l0_3.length c0_3]) (t := 25) ?hr ?_; (case hd => rfl); (case hg => rfl); (case hr => first | (go_simp; done) | (go_simp; rfl)); intro gb243 hg w17 hbox hb; have n0_ := Aside0.mk (below_step zq4_1 hb); have n1_ := Aside0.mk (hbox); have n2_ := Aside0.mk ((by rw [hg]; exact (below_size zq4_1) : w.heap.size ≤ gb243)); have n3_ := Aside0.mk ((by rw [hg]; exact (below_size zq4_1) : w.heap.size ≤ gb243)); clear HB; have HB := n0_; have BK243 := n1_; have GW243 := n2_; have GE243 := n3_; clear n0_ n1_ n2_ n3_; clear hb hbox hg) | ((with_reducible refine gate_callee (f := 13) rfl ?_); refine goesL_ (some 11) rfl rfl Try.func13 (by kernel_rfl) rfl #[.agg #[.int .u8 8, .int .u8 0, .int .u32 0, .slice none 0 0]] rfl zq4_5 ?_; (refine (weftlaw6_there.calls k 8 0 0 _ _ ([] : List Int) false _ ?side1 ?side2 A4.out).mono ?_); (case side1 => exact Kd.C_nil _ _); (case side2 => exact Nat.le_refl _); rintro e w18 ⟨rfl, hb⟩; refine ⟨_, rfl, ?_⟩; have n0_ := Aside0.mk (blk_below (g := gb243) (o := .cells #[.int .u8 a0_0, .int .u8 a0_1, .int .u32 a0_2, .slice A0_3 l0_3.length c0_3] 25 (0, 0)) zq4_0 hb); have n1_ := Aside0.mk (below_step zq4_4 hb); clear BK243; clear HB; have BK243 := n0_; have HB := n1_; clear n0_ n1_; (try clear hb); (try clear hb2); (try clear hk); (try clear hi)))
      go_ret
      exact ⟨by first | rfl | (simp [errW_none, errW_some] <;> rfl) | (simp [*, errW_none, errW_some] <;> rfl), by repeat (first | (with_reducible first | exact HB.out | apply below_alloc | apply pw_below_drewN | apply below_drew1 | refine below_set ?_ GE243.out) | exact HB.out)⟩
  · rw [if_neg c3] at H
    have c3b0 : decide (a1 < 0) = false := decide_eq_false c3
    clear c3
    replace H := Option.bind_eq_some_iff.mp H
    obtain ⟨t247, A190, H⟩ := H
    replace H : (if t247 = true then ((weftlaw6_flip.f k 8 0 0 ([] : List Int) a1).bind fun t248 => (if t248 = true then ((weftlaw6_flip.f k a0_0 a0_1 a0_2 l0_3 a1).bind fun t249 => (some t249)) else (some false))) else (some false)) = some r := H
    have A19 := Aside0.mk A190
    clear A190
    by_cases c20 : t247 = true
    · subst c20
      have H1 : ((weftlaw6_flip.f k 8 0 0 ([] : List Int) a1).bind fun t248 => (if t248 = true then ((weftlaw6_flip.f k a0_0 a0_1 a0_2 l0_3 a1).bind fun t249 => (some t249)) else (some false))) = some r := by rw [if_pos rfl] at H; exact H
      clear H
      have H := H1
      clear H1
      replace H := Option.bind_eq_some_iff.mp H
      obtain ⟨t248, A210, H⟩ := H
      replace H : (if t248 = true then ((weftlaw6_flip.f k a0_0 a0_1 a0_2 l0_3 a1).bind fun t249 => (some t249)) else (some false)) = some r := H
      have A21 := Aside0.mk A210
      clear A210
      by_cases c22 : t248 = true
      · subst c22
        have H1 : ((weftlaw6_flip.f k a0_0 a0_1 a0_2 l0_3 a1).bind fun t249 => (some t249)) = some r := by rw [if_pos rfl] at H; exact H
        clear H
        have H := H1
        clear H1
        replace H := Option.bind_eq_some_iff.mp H
        obtain ⟨t249, A230, H⟩ := H
        replace H : (some t249) = some r := H
        have A23 := Aside0.mk A230
        clear A230
        obtain rfl := Option.some.inj H
        go_enter Try.func4, Try.ntmps4
        go_wp2_with (first | ((with_reducible refine gate_dst (N := 2) rfl ?_); refine box_event ?hg (N := 2) ?hd (cs := #[.int .u8 a0_0, .int .u8 a0_1, .int .u32 a0_2, .slice A0_3 l0_3.length c0_3]) (t := 25) ?hr ?_; (case hd => rfl); (case hg => rfl); (case hr => first | (go_simp; done) | (go_simp; rfl)); intro gb243 hg w24 hbox hb; have n0_ := Aside0.mk (below_step zq4_1 hb); have n1_ := Aside0.mk (hbox); have n2_ := Aside0.mk ((by rw [hg]; exact (below_size zq4_1) : w.heap.size ≤ gb243)); have n3_ := Aside0.mk ((by rw [hg]; exact (below_size zq4_1) : w.heap.size ≤ gb243)); clear HB; have HB := n0_; have BK243 := n1_; have GW243 := n2_; have GE243 := n3_; clear n0_ n1_ n2_ n3_; clear hb hbox hg) | ((with_reducible refine gate_callee (f := 13) rfl ?_); refine goesL_ (some 11) rfl rfl Try.func13 (by kernel_rfl) rfl #[.agg #[.int .u8 8, .int .u8 0, .int .u32 0, .slice none 0 0]] rfl zq4_5 ?_; (refine (weftlaw6_there.calls k 8 0 0 _ _ ([] : List Int) true _ ?side1 ?side2 A19.out).mono ?_); (case side1 => exact Kd.C_nil _ _); (case side2 => exact Nat.le_refl _); rintro e w25 ⟨rfl, hb⟩; refine ⟨_, rfl, ?_⟩; have n0_ := Aside0.mk (blk_below (g := gb243) (o := .cells #[.int .u8 a0_0, .int .u8 a0_1, .int .u32 a0_2, .slice A0_3 l0_3.length c0_3] 25 (0, 0)) zq4_0 hb); have n1_ := Aside0.mk (below_step zq4_4 hb); clear BK243; clear HB; have BK243 := n0_; have HB := n1_; clear n0_ n1_; (try clear hb); (try clear hb2); (try clear hk); (try clear hi)) | (go_at_call 16; refine calls_of_args (args' := #[.agg #[.int .u8 8, .int .u8 0, .int .u32 0, .slice none ([] : List Int).length 0], .int .i64 a1]) (by rfl) ?_; (with_reducible refine (weftlaw6_flip.calls k 8 0 0 _ _ ([] : List Int) a1 true _ ?side1 ?side2 A21.out).mono ?_); (case side1 => exact Kd.C_nil _ _); (case side2 => exact Nat.le_refl _); rintro e w26 ⟨rfl, hb⟩; have n0_ := Aside0.mk (blk_below (g := gb243) (o := .cells #[.int .u8 a0_0, .int .u8 a0_1, .int .u32 a0_2, .slice A0_3 l0_3.length c0_3] 25 (0, 0)) zq4_0 hb); have n1_ := Aside0.mk (below_step zq4_4 hb); clear BK243; clear HB; have BK243 := n0_; have HB := n1_; clear n0_ n1_; (try clear hb); (try clear hb2); (try clear hk); (try clear hi); have hcz27_0 : w26.cell? ⟨gb243, 0, none⟩ = some (.int .u8 a0_0) := (blk_cell BK243.out 0).trans rfl; have hcz27_1 : w26.cell? ⟨gb243, 1, none⟩ = some (.int .u8 a0_1) := (blk_cell BK243.out 1).trans rfl; have hcz27_2 : w26.cell? ⟨gb243, 2, none⟩ = some (.int .u32 a0_2) := (blk_cell BK243.out 2).trans rfl; have hcz27_3 : w26.cell? ⟨gb243, 3, none⟩ = some (.slice A0_3 l0_3.length c0_3) := (blk_cell BK243.out 3).trans rfl; have hfz27_0 := blk_frozen BK243.out 0; have hfz27_1 := blk_frozen BK243.out 1; have hfz27_2 := blk_frozen BK243.out 2; have hfz27_3 := blk_frozen BK243.out 3) | (go_at_call 16; (with_reducible refine (weftlaw6_flip.calls k a0_0 a0_1 a0_2 _ _ l0_3 a1 t249 _ ?side1 ?side2 A23.out).mono ?_); (case side1 => repeat (first | exact (Kd.C_below HR0_3.out HB.out) | (with_reducible refine Kd.C_alloc ?_ _) | (with_reducible refine Kd.C_drewN ?_ _) | (with_reducible refine Kd.C_drew ?_))); (case side2 => exact HC0_3.out); rintro e w28 ⟨rfl, hb⟩; have n0_ := Aside0.mk (blk_below (g := gb243) (o := .cells #[.int .u8 a0_0, .int .u8 a0_1, .int .u32 a0_2, .slice A0_3 l0_3.length c0_3] 25 (0, 0)) zq4_0 hb); have n1_ := Aside0.mk (below_step zq4_4 hb); clear BK243; clear HB; have BK243 := n0_; have HB := n1_; clear n0_ n1_; (try clear hb); (try clear hb2); (try clear hk); (try clear hi)))
        go_ret
        exact ⟨by first | rfl | (simp [errW_none, errW_some] <;> rfl) | (simp [*, errW_none, errW_some] <;> rfl), by repeat (first | (with_reducible first | exact HB.out | apply below_alloc | apply pw_below_drewN | apply below_drew1 | refine below_set ?_ GE243.out) | exact HB.out)⟩
      · replace c22 := Bool.eq_false_iff.mpr c22
        subst c22
        have H1 : (some false) = some r := by rw [if_neg (show ¬ (false = true) by decide)] at H; exact H
        clear H
        have H := H1
        clear H1
        obtain rfl := Option.some.inj H
        go_enter Try.func4, Try.ntmps4
        go_wp2_with (first | ((with_reducible refine gate_dst (N := 2) rfl ?_); refine box_event ?hg (N := 2) ?hd (cs := #[.int .u8 a0_0, .int .u8 a0_1, .int .u32 a0_2, .slice A0_3 l0_3.length c0_3]) (t := 25) ?hr ?_; (case hd => rfl); (case hg => rfl); (case hr => first | (go_simp; done) | (go_simp; rfl)); intro gb243 hg w29 hbox hb; have n0_ := Aside0.mk (below_step zq4_1 hb); have n1_ := Aside0.mk (hbox); have n2_ := Aside0.mk ((by rw [hg]; exact (below_size zq4_1) : w.heap.size ≤ gb243)); have n3_ := Aside0.mk ((by rw [hg]; exact (below_size zq4_1) : w.heap.size ≤ gb243)); clear HB; have HB := n0_; have BK243 := n1_; have GW243 := n2_; have GE243 := n3_; clear n0_ n1_ n2_ n3_; clear hb hbox hg) | ((with_reducible refine gate_callee (f := 13) rfl ?_); refine goesL_ (some 11) rfl rfl Try.func13 (by kernel_rfl) rfl #[.agg #[.int .u8 8, .int .u8 0, .int .u32 0, .slice none 0 0]] rfl zq4_5 ?_; (refine (weftlaw6_there.calls k 8 0 0 _ _ ([] : List Int) true _ ?side1 ?side2 A19.out).mono ?_); (case side1 => exact Kd.C_nil _ _); (case side2 => exact Nat.le_refl _); rintro e w30 ⟨rfl, hb⟩; refine ⟨_, rfl, ?_⟩; have n0_ := Aside0.mk (blk_below (g := gb243) (o := .cells #[.int .u8 a0_0, .int .u8 a0_1, .int .u32 a0_2, .slice A0_3 l0_3.length c0_3] 25 (0, 0)) zq4_0 hb); have n1_ := Aside0.mk (below_step zq4_4 hb); clear BK243; clear HB; have BK243 := n0_; have HB := n1_; clear n0_ n1_; (try clear hb); (try clear hb2); (try clear hk); (try clear hi)) | (go_at_call 16; refine calls_of_args (args' := #[.agg #[.int .u8 8, .int .u8 0, .int .u32 0, .slice none ([] : List Int).length 0], .int .i64 a1]) (by rfl) ?_; (with_reducible refine (weftlaw6_flip.calls k 8 0 0 _ _ ([] : List Int) a1 false _ ?side1 ?side2 A21.out).mono ?_); (case side1 => exact Kd.C_nil _ _); (case side2 => exact Nat.le_refl _); rintro e w31 ⟨rfl, hb⟩; have n0_ := Aside0.mk (blk_below (g := gb243) (o := .cells #[.int .u8 a0_0, .int .u8 a0_1, .int .u32 a0_2, .slice A0_3 l0_3.length c0_3] 25 (0, 0)) zq4_0 hb); have n1_ := Aside0.mk (below_step zq4_4 hb); clear BK243; clear HB; have BK243 := n0_; have HB := n1_; clear n0_ n1_; (try clear hb); (try clear hb2); (try clear hk); (try clear hi)))
        go_ret
        exact ⟨by first | rfl | (simp [errW_none, errW_some] <;> rfl) | (simp [*, errW_none, errW_some] <;> rfl), by repeat (first | (with_reducible first | exact HB.out | apply below_alloc | apply pw_below_drewN | apply below_drew1 | refine below_set ?_ GE243.out) | exact HB.out)⟩
    · replace c20 := Bool.eq_false_iff.mpr c20
      subst c20
      have H1 : (some false) = some r := by rw [if_neg (show ¬ (false = true) by decide)] at H; exact H
      clear H
      have H := H1
      clear H1
      obtain rfl := Option.some.inj H
      go_enter Try.func4, Try.ntmps4
      go_wp2_with (first | ((with_reducible refine gate_dst (N := 2) rfl ?_); refine box_event ?hg (N := 2) ?hd (cs := #[.int .u8 a0_0, .int .u8 a0_1, .int .u32 a0_2, .slice A0_3 l0_3.length c0_3]) (t := 25) ?hr ?_; (case hd => rfl); (case hg => rfl); (case hr => first | (go_simp; done) | (go_simp; rfl)); intro gb243 hg w32 hbox hb; have n0_ := Aside0.mk (below_step zq4_1 hb); have n1_ := Aside0.mk (hbox); have n2_ := Aside0.mk ((by rw [hg]; exact (below_size zq4_1) : w.heap.size ≤ gb243)); have n3_ := Aside0.mk ((by rw [hg]; exact (below_size zq4_1) : w.heap.size ≤ gb243)); clear HB; have HB := n0_; have BK243 := n1_; have GW243 := n2_; have GE243 := n3_; clear n0_ n1_ n2_ n3_; clear hb hbox hg) | ((with_reducible refine gate_callee (f := 13) rfl ?_); refine goesL_ (some 11) rfl rfl Try.func13 (by kernel_rfl) rfl #[.agg #[.int .u8 8, .int .u8 0, .int .u32 0, .slice none 0 0]] rfl zq4_5 ?_; (refine (weftlaw6_there.calls k 8 0 0 _ _ ([] : List Int) false _ ?side1 ?side2 A19.out).mono ?_); (case side1 => exact Kd.C_nil _ _); (case side2 => exact Nat.le_refl _); rintro e w33 ⟨rfl, hb⟩; refine ⟨_, rfl, ?_⟩; have n0_ := Aside0.mk (blk_below (g := gb243) (o := .cells #[.int .u8 a0_0, .int .u8 a0_1, .int .u32 a0_2, .slice A0_3 l0_3.length c0_3] 25 (0, 0)) zq4_0 hb); have n1_ := Aside0.mk (below_step zq4_4 hb); clear BK243; clear HB; have BK243 := n0_; have HB := n1_; clear n0_ n1_; (try clear hb); (try clear hb2); (try clear hk); (try clear hi)))
      go_ret
      exact ⟨by first | rfl | (simp [errW_none, errW_some] <;> rfl) | (simp [*, errW_none, errW_some] <;> rfl), by repeat (first | (with_reducible first | exact HB.out | apply below_alloc | apply pw_below_drewN | apply below_drew1 | refine below_set ?_ GE243.out) | exact HB.out)⟩

end Go.Proofs.Ytmjhfkjnnpnoaaa.XA
