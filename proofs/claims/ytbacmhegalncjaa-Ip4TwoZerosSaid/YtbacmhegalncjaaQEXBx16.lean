-- printed by a program of this session (wip/xprint), out of the translation; Lean checks it
import Derived.Test.YtbacmhegalncjaaQEXBx0
import Derived.Test.YtbacmhegalncjaaQEXBx3
import Derived.Test.YtbacmhegalncjaaQEXBx5
import Derived.Test.YtbacmhegalncjaaQEXBx6
import Derived.Test.YtbacmhegalncjaaQEXBx9
import Derived.Test.YtbacmhegalncjaaQEXBx13
namespace Go.Proofs.Ytbacmhegalncjaa.XB
open Go.RowKit Go.Proofs.YtbacmhegalncjaaW.PrintWords Go.Proofs.YtbacmhegalncjaaW.PrintLast Go.Proofs.YtbacmhegalncjaaW.PrintMore Go.Proofs.YtbacmhegalncjaaX
theorem zq16_9 {P : Prop} (h : P := by first | (with_reducible exact BK850.out) | (with_reducible exact blk_drewN BK850.out _) | (with_reducible exact blk_drew BK850.out) | ((with_reducible repeat (first | refine blk_drewN ?_ _ | refine blk_drew ?_ | refine blk_alloc ?_ _)); exact BK850.out)) : P := h
theorem zq16_8 {P : Prop} (h : P := by (try simp only [List.map_toArray, List.map_cons, List.map_nil]); first | done | rfl | (simp only [List.length_drop, List.length_take]; rfl)) : P := h
theorem zq16_7 {P : Prop} (h : P := by (with_reducible repeat (first | apply Kd.R_alloc | apply Kd.R_drewN | apply Kd.R_drew)); exact HO_5.out) : P := h
theorem zq16_6 {P : Prop} (h : P := by (with_reducible repeat (first | apply Kd.R_alloc | apply Kd.R_drewN | apply Kd.R_drew)); exact (Kd.R_mono (Kd.R_far (p := ⟨gb850, 10, none⟩) (Kd.R_far (p := ⟨gb850, 9, none⟩) (Kd.R_far (p := ⟨gb850, 8, none⟩) (Kd.R_far (p := ⟨gb850, 7, none⟩) (Kd.R_far (p := ⟨gb850, 6, none⟩) (Kd.R_far (p := ⟨gb850, 5, none⟩) (Kd.R_far (p := ⟨gb850, 4, none⟩) (Kd.R_far (p := ⟨gb850, 3, none⟩) (Kd.R_far (p := ⟨gb850, 2, none⟩) (Kd.R_far (p := ⟨gb850, 1, none⟩) (Kd.R_far (p := ⟨gb850, 0, none⟩) (Kd.R_types HO831.out BK850.out (by decide)) (fun _ hk => hk.2) (.int .u8 t834)) (fun _ hk => hk.2) (.int .u16 t835)) (fun _ hk => hk.2) (.bool t836)) (fun _ hk => hk.2) (.bool t837)) (fun _ hk => hk.2) (.int .i64 t838)) (fun _ hk => hk.2) (.int .u8 t839)) (fun _ hk => hk.2) (.int .u8 t840)) (fun _ hk => hk.2) (.int .u32 t841)) (fun _ hk => hk.2) (.int .u32 t842)) (fun _ hk => hk.2) (.slice Ao43 t843.length co43)) (fun _ hk => hk.2) (.slice Ao44 t846.length co44)) (fun _ h_ => h_.1))) : P := h
theorem zq16_5 {P : Prop} (h : P := by repeat (first | (with_reducible first | exact HB.out | apply below_alloc | apply pw_below_drewN | apply below_drew1) | exact HB.out)) : P := h
theorem zq16_4 {P : Prop} (h : P := by repeat (first | (with_reducible first | exact HB.out | apply below_alloc | apply pw_below_drewN | apply below_drew1 | refine below_set ?_ GE818.out | refine below_set ?_ GE850.out) | exact HB.out)) : P := h
theorem zq16_3 {P : Prop} (h : P := by (with_reducible repeat (first | refine blk_drewN ?_ _ | refine blk_drew ?_ | refine blk_alloc ?_ _)); refine blk_put (cs := #[.int .u8 a0_0, .int .u16 a0_1, .bool a0_2, .bool a0_3, .int .i64 a0_4, .int .u8 a0_5, .int .u8 a0_6, .int .u32 a0_7, .int .u32 a0_8, .slice A0_9 l0_9.length c0_9, .slice A0_10 l0_10.length c0_10]) ?_ 1 _ rfl; first | (with_reducible exact BK818.out) | (with_reducible exact blk_drewN BK818.out _) | (with_reducible exact blk_drew BK818.out) | ((with_reducible repeat (first | refine blk_drewN ?_ _ | refine blk_drew ?_ | refine blk_alloc ?_ _)); exact BK818.out)) : P := h
theorem zq16_2 {P : Prop} (h : P := by (with_reducible repeat (first | apply Kd.R_alloc | apply Kd.R_drewN | apply Kd.R_drew)); exact (Kd.R_mono (Kd.R_far (p := ⟨gb850, 10, none⟩) (Kd.R_far (p := ⟨gb850, 9, none⟩) (Kd.R_far (p := ⟨gb850, 8, none⟩) (Kd.R_far (p := ⟨gb850, 7, none⟩) (Kd.R_far (p := ⟨gb850, 6, none⟩) (Kd.R_far (p := ⟨gb850, 5, none⟩) (Kd.R_far (p := ⟨gb850, 4, none⟩) (Kd.R_far (p := ⟨gb850, 3, none⟩) (Kd.R_far (p := ⟨gb850, 2, none⟩) (Kd.R_far (p := ⟨gb850, 1, none⟩) (Kd.R_far (p := ⟨gb850, 0, none⟩) (Kd.R_types HO_5.out BK850.out (by decide)) (fun _ hk => hk.2) (.int .u8 t834)) (fun _ hk => hk.2) (.int .u16 t835)) (fun _ hk => hk.2) (.bool t836)) (fun _ hk => hk.2) (.bool t837)) (fun _ hk => hk.2) (.int .i64 t838)) (fun _ hk => hk.2) (.int .u8 t839)) (fun _ hk => hk.2) (.int .u8 t840)) (fun _ hk => hk.2) (.int .u32 t841)) (fun _ hk => hk.2) (.int .u32 t842)) (fun _ hk => hk.2) (.slice Ao43 t843.length co43)) (fun _ hk => hk.2) (.slice Ao44 t846.length co44)) (fun _ h_ => h_.1))) : P := h
theorem zq16_1 {P : Prop} (h : P := by first | (with_reducible exact BK818.out) | (with_reducible exact blk_drewN BK818.out _) | (with_reducible exact blk_drew BK818.out) | ((with_reducible repeat (first | refine blk_drewN ?_ _ | refine blk_drew ?_ | refine blk_alloc ?_ _)); exact BK818.out)) : P := h
theorem zq16_0 {P : Prop} (h : P := by repeat (first | (with_reducible first | exact HB.out | apply below_alloc | apply pw_below_drewN | apply below_drew1 | refine below_set ?_ GE818.out) | exact HB.out)) : P := h
attribute [local go_sem] max2_int min2_int max_two min_two max_three min_three max_four min_four   -- for this text's walks alone
set_option linter.unusedVariables false
set_option linter.unusedSimpArgs false

/-! ### weftlaw3_zeros: function 30 -/
mutual
def weftlaw3_zeros.j0 : Nat → List Int → Bool → Int → Int → Bool → Bool → Int → Int → Int → Int → Int → List Int → List Int → Option (Bool)
  | 0, _, _, _, _, _, _, _, _, _, _, _, _, _ => none
  | k + 1, x5, x50, x819000, x819001, x819002, x819003, x819004, x819005, x819006, x819007, x819008, x819009, x819010 => if x50 = true then (some false) else ((weftlaw3_clone.f k x5).bind fun t829 => (if 10 < (t829.length : Int) then (if 11 < (t829.length : Int) then ((some ((t829.set (10 : Int).toNat 255).set (11 : Int).toNat 255 : List Int)).bind fun y833 => ((ip4_Parse.f k y833).bind fun bt834 => ((ip4_Age.f k x5).bind fun bt851 => ((ip4_Age.f k y833).bind fun bt855 => (if x819005 > 1 then (if bt851.2 = 0 then (weftlaw3_zeros.j1 k bt834.2.2.2.2.2.2.2.2.2.2.2 bt851.1 bt851.2 bt855.1 bt855.2 ((bt851.1.length : Int) != (x5.length : Int)) x819000 x819001 x819002 x819003 x819004 x819005 x819006 x819007 x819008 x819009 x819010 bt834.1 bt834.2.1 bt834.2.2.1 bt834.2.2.2.1 bt834.2.2.2.2.1 bt834.2.2.2.2.2.1 bt834.2.2.2.2.2.2.1 bt834.2.2.2.2.2.2.2.1 bt834.2.2.2.2.2.2.2.2.1 bt834.2.2.2.2.2.2.2.2.2.1 bt834.2.2.2.2.2.2.2.2.2.2.1) else (weftlaw3_zeros.j1 k bt834.2.2.2.2.2.2.2.2.2.2.2 bt851.1 bt851.2 bt855.1 bt855.2 true x819000 x819001 x819002 x819003 x819004 x819005 x819006 x819007 x819008 x819009 x819010 bt834.1 bt834.2.1 bt834.2.2.1 bt834.2.2.2.1 bt834.2.2.2.2.1 bt834.2.2.2.2.2.1 bt834.2.2.2.2.2.2.1 bt834.2.2.2.2.2.2.2.1 bt834.2.2.2.2.2.2.2.2.1 bt834.2.2.2.2.2.2.2.2.2.1 bt834.2.2.2.2.2.2.2.2.2.2.1)) else (weftlaw3_zeros.j1 k bt834.2.2.2.2.2.2.2.2.2.2.2 bt851.1 bt851.2 bt855.1 bt855.2 false x819000 x819001 x819002 x819003 x819004 x819005 x819006 x819007 x819008 x819009 x819010 bt834.1 bt834.2.1 bt834.2.2.1 bt834.2.2.2.1 bt834.2.2.2.2.1 bt834.2.2.2.2.2.1 bt834.2.2.2.2.2.2.1 bt834.2.2.2.2.2.2.2.1 bt834.2.2.2.2.2.2.2.2.1 bt834.2.2.2.2.2.2.2.2.2.1 bt834.2.2.2.2.2.2.2.2.2.2.1)))))) else (none)) else (none)))
def weftlaw3_zeros.j1 : Nat → Int → List Int → Int → List Int → Int → Bool → Int → Int → Bool → Bool → Int → Int → Int → Int → Int → List Int → List Int → Int → Int → Bool → Bool → Int → Int → Int → Int → Int → List Int → List Int → Option (Bool)
  | 0, _, _, _, _, _, _, _, _, _, _, _, _, _, _, _, _, _, _, _, _, _, _, _, _, _, _, _, _ => none
  | k + 1, x9, x10, x11, x12, x13, x86, x819000, x819001, x819002, x819003, x819004, x819005, x819006, x819007, x819008, x819009, x819010, x851000, x851001, x851002, x851003, x851004, x851005, x851006, x851007, x851008, x851009, x851010 => if x86 = true then (some false) else (if x9 = 0 then ((weftlaw3_packets.f k x819000 x819001 x819002 x819003 x819004 x819005 x819006 x819007 x819008 x819009 x819010 x851000 x851001 x851002 x851003 x851004 x851005 x851006 x851007 x851008 x851009 x851010).bind fun t859 => (if t859 = true then (if x11 = x13 then ((weftlaw3_same.f k x10 x12).bind fun t860 => (some t860)) else (some false)) else (some false))) else (some false))
end
def weftlaw3_zeros.f (k : Nat) (a0_0 : Int) (a0_1 : Int) (a0_2 : Bool) (a0_3 : Bool) (a0_4 : Int) (a0_5 : Int) (a0_6 : Int) (a0_7 : Int) (a0_8 : Int) (l0_9 : List Int) (l0_10 : List Int) : Option (Bool) := (ip4_Build.f k a0_0 0 a0_2 a0_3 a0_4 a0_5 a0_6 a0_7 a0_8 l0_9 l0_10).bind fun bt819 => (if bt819.2 = 0 then (if (bt819.1.length : Int) < 20 then (some false) else ((weftlaw3_word.f bt819.1 10).bind fun t823 => ((ip4_Build.f k a0_0 (IntKind.u16.wrap (t823)) a0_2 a0_3 a0_4 a0_5 a0_6 a0_7 a0_8 l0_9 l0_10).bind fun bt824 => (if bt824.2 = 0 then (if (bt824.1.length : Int) < 20 then (weftlaw3_zeros.j0 k bt824.1 true a0_0 (IntKind.u16.wrap (t823)) a0_2 a0_3 a0_4 a0_5 a0_6 a0_7 a0_8 l0_9 l0_10) else ((weftlaw3_word.f bt824.1 10).bind fun t828 => (weftlaw3_zeros.j0 k bt824.1 (t828 != 0) a0_0 (IntKind.u16.wrap (t823)) a0_2 a0_3 a0_4 a0_5 a0_6 a0_7 a0_8 l0_9 l0_10))) else (weftlaw3_zeros.j0 k bt824.1 true a0_0 (IntKind.u16.wrap (t823)) a0_2 a0_3 a0_4 a0_5 a0_6 a0_7 a0_8 l0_9 l0_10))))) else (some ((bt819.1.length : Int) == 0)))
set_option maxHeartbeats 8000000 in
set_option maxRecDepth 100000 in
theorem weftlaw3_zeros.calls (k : Nat) (a0_0 : Int) (a0_1 : Int) (a0_2 : Bool) (a0_3 : Bool) (a0_4 : Int) (a0_5 : Int) (a0_6 : Int) (a0_7 : Int) (a0_8 : Int) (A0_9 : Option Addr) (c0_9 : Nat) (l0_9 : List Int) (A0_10 : Option Addr) (c0_10 : Nat) (l0_10 : List Int) (r : Bool) (w : World) (hr0_9 : Kd.C (Kd.int .u8) w A0_9 l0_9.length l0_9) (hc0_9 : l0_9.length ≤ c0_9) (hr0_10 : Kd.C (Kd.int .u8) w A0_10 l0_10.length l0_10) (hc0_10 : l0_10.length ≤ c0_10) (h : weftlaw3_zeros.f k a0_0 a0_1 a0_2 a0_3 a0_4 a0_5 a0_6 a0_7 a0_8 l0_9 l0_10 = some r) :
    Calls Try.prog 30 #[.agg #[.int .u8 a0_0, .int .u16 a0_1, .bool a0_2, .bool a0_3, .int .i64 a0_4, .int .u8 a0_5, .int .u8 a0_6, .int .u32 a0_7, .int .u32 a0_8, .slice A0_9 l0_9.length c0_9, .slice A0_10 l0_10.length c0_10]] w fun e w' => e = .returned (.bool r) ∧ Below w.heap.size w w' := by
  have hu43 := Try.underlying43
  have HR0_9 := Aside0.mk hr0_9
  have HC0_9 := Aside0.mk hc0_9
  clear hr0_9 hc0_9
  have HR0_10 := Aside0.mk hr0_10
  have HC0_10 := Aside0.mk hc0_10
  clear hr0_10 hc0_10
  have HB := Aside0.mk (Below.refl w.heap.size w)
  have H : ((ip4_Build.f k a0_0 0 a0_2 a0_3 a0_4 a0_5 a0_6 a0_7 a0_8 l0_9 l0_10).bind fun bt819 => (if bt819.2 = 0 then (if (bt819.1.length : Int) < 20 then (some false) else ((weftlaw3_word.f bt819.1 10).bind fun t823 => ((ip4_Build.f k a0_0 (IntKind.u16.wrap (t823)) a0_2 a0_3 a0_4 a0_5 a0_6 a0_7 a0_8 l0_9 l0_10).bind fun bt824 => (if bt824.2 = 0 then (if (bt824.1.length : Int) < 20 then (weftlaw3_zeros.j0 k bt824.1 true a0_0 (IntKind.u16.wrap (t823)) a0_2 a0_3 a0_4 a0_5 a0_6 a0_7 a0_8 l0_9 l0_10) else ((weftlaw3_word.f bt824.1 10).bind fun t828 => (weftlaw3_zeros.j0 k bt824.1 (t828 != 0) a0_0 (IntKind.u16.wrap (t823)) a0_2 a0_3 a0_4 a0_5 a0_6 a0_7 a0_8 l0_9 l0_10))) else (weftlaw3_zeros.j0 k bt824.1 true a0_0 (IntKind.u16.wrap (t823)) a0_2 a0_3 a0_4 a0_5 a0_6 a0_7 a0_8 l0_9 l0_10))))) else (some ((bt819.1.length : Int) == 0)))) = some r := h
  clear h
  replace H := Option.bind_eq_some_iff.mp H
  obtain ⟨⟨t819, t822⟩, A20, H⟩ := H
  replace H : (if t822 = 0 then (if (t819.length : Int) < 20 then (some false) else ((weftlaw3_word.f t819 10).bind fun t823 => ((ip4_Build.f k a0_0 (IntKind.u16.wrap (t823)) a0_2 a0_3 a0_4 a0_5 a0_6 a0_7 a0_8 l0_9 l0_10).bind fun bt824 => (if bt824.2 = 0 then (if (bt824.1.length : Int) < 20 then (weftlaw3_zeros.j0 k bt824.1 true a0_0 (IntKind.u16.wrap (t823)) a0_2 a0_3 a0_4 a0_5 a0_6 a0_7 a0_8 l0_9 l0_10) else ((weftlaw3_word.f bt824.1 10).bind fun t828 => (weftlaw3_zeros.j0 k bt824.1 (t828 != 0) a0_0 (IntKind.u16.wrap (t823)) a0_2 a0_3 a0_4 a0_5 a0_6 a0_7 a0_8 l0_9 l0_10))) else (weftlaw3_zeros.j0 k bt824.1 true a0_0 (IntKind.u16.wrap (t823)) a0_2 a0_3 a0_4 a0_5 a0_6 a0_7 a0_8 l0_9 l0_10))))) else (some ((t819.length : Int) == 0))) = some r := H
  have A2 := Aside0.mk A20
  clear A20
  by_cases c3 : t822 = 0
  · rw [if_pos c3] at H
    have c3b0 : (t822 == 0) = true := beq_iff_eq.mpr c3
    have c3b1 : (t822 != 0) = false := bne_eq_false_iff_eq.mpr c3
    clear c3
    by_cases c4 : (t819.length : Int) < 20
    · rw [if_pos c4] at H
      have c4b0 : decide ((t819.length : Int) < 20) = true := decide_eq_true c4
      have c4b1 : decide (t819.length < 20) = true := decide_eq_true (by omega)
      clear c4
      obtain rfl := Option.some.inj H
      go_enter Try.func30, Try.ntmps30
      go_wp2_with (first | ((with_reducible refine gate_dst (N := 1) rfl ?_); (try (refine gate_guard (by rfl) ?_; dsimp only)); refine box_event ?hg (N := 1) ?hd (cs := #[.int .u8 a0_0, .int .u16 a0_1, .bool a0_2, .bool a0_3, .int .i64 a0_4, .int .u8 a0_5, .int .u8 a0_6, .int .u32 a0_7, .int .u32 a0_8, .slice A0_9 l0_9.length c0_9, .slice A0_10 l0_10.length c0_10]) (t := 43) ?hr ?_; (case hd => rfl); (case hg => rfl); (case hr => first | (go_simp; done) | (go_simp; rfl)); intro gb818 hg w5 hbox hb; have n0_ := Aside0.mk (below_step zq16_5 hb); have n1_ := Aside0.mk (hbox); have n2_ := Aside0.mk ((by rw [hg]; exact (below_size zq16_5) : w.heap.size ≤ gb818)); have n3_ := Aside0.mk ((by rw [hg]; exact (below_size zq16_5) : w.heap.size ≤ gb818)); clear HB; have HB := n0_; have BK818 := n1_; have GW818 := n2_; have GE818 := n3_; clear n0_ n1_ n2_ n3_; clear hb hbox hg; have hcz6_0 : w5.cell? ⟨gb818, 0, none⟩ = some (.int .u8 a0_0) := (blk_cell BK818.out 0).trans rfl; have hcz6_1 : w5.cell? ⟨gb818, 1, none⟩ = some (.int .u16 a0_1) := (blk_cell BK818.out 1).trans rfl; have hcz6_2 : w5.cell? ⟨gb818, 2, none⟩ = some (.bool a0_2) := (blk_cell BK818.out 2).trans rfl; have hcz6_3 : w5.cell? ⟨gb818, 3, none⟩ = some (.bool a0_3) := (blk_cell BK818.out 3).trans rfl; have hcz6_4 : w5.cell? ⟨gb818, 4, none⟩ = some (.int .i64 a0_4) := (blk_cell BK818.out 4).trans rfl; have hcz6_5 : w5.cell? ⟨gb818, 5, none⟩ = some (.int .u8 a0_5) := (blk_cell BK818.out 5).trans rfl; have hcz6_6 : w5.cell? ⟨gb818, 6, none⟩ = some (.int .u8 a0_6) := (blk_cell BK818.out 6).trans rfl; have hcz6_7 : w5.cell? ⟨gb818, 7, none⟩ = some (.int .u32 a0_7) := (blk_cell BK818.out 7).trans rfl; have hcz6_8 : w5.cell? ⟨gb818, 8, none⟩ = some (.int .u32 a0_8) := (blk_cell BK818.out 8).trans rfl; have hcz6_9 : w5.cell? ⟨gb818, 9, none⟩ = some (.slice A0_9 l0_9.length c0_9) := (blk_cell BK818.out 9).trans rfl; have hcz6_10 : w5.cell? ⟨gb818, 10, none⟩ = some (.slice A0_10 l0_10.length c0_10) := (blk_cell BK818.out 10).trans rfl; have hfz6_0 := blk_frozen BK818.out 0; have hfz6_1 := blk_frozen BK818.out 1; have hfz6_2 := blk_frozen BK818.out 2; have hfz6_3 := blk_frozen BK818.out 3; have hfz6_4 := blk_frozen BK818.out 4; have hfz6_5 := blk_frozen BK818.out 5; have hfz6_6 := blk_frozen BK818.out 6; have hfz6_7 := blk_frozen BK818.out 7; have hfz6_8 := blk_frozen BK818.out 8; have hfz6_9 := blk_frozen BK818.out 9; have hfz6_10 := blk_frozen BK818.out 10) | ((with_reducible refine gate_callee (f := 22) rfl ?_); refine goesL_ (some 18) rfl rfl Try.func22 (by kernel_rfl) rfl #[.agg #[.int .u8 a0_0, .int .u16 0, .bool a0_2, .bool a0_3, .int .i64 a0_4, .int .u8 a0_5, .int .u8 a0_6, .int .u32 a0_7, .int .u32 a0_8, .slice A0_9 l0_9.length c0_9, .slice A0_10 l0_10.length c0_10]] rfl zq16_8 ?_; (with_reducible refine (ip4_Build.calls k a0_0 0 a0_2 a0_3 a0_4 a0_5 a0_6 a0_7 a0_8 _ _ l0_9 _ _ l0_10 t819 t822 _ ?side1 ?side2 ?side3 ?side4 A2.out).mono ?_); (case side1 => exact Kd.C_below HR0_9.out zq16_0); (case side2 => exact HC0_9.out); (case side3 => exact Kd.C_below HR0_10.out zq16_0); (case side4 => exact HC0_10.out); rintro e w7 ⟨v820, rfl, ho0, hb⟩; refine ⟨_, rfl, ?_⟩; have n0_ := Aside0.mk (Kd.R_lower ho0 (below_size zq16_0)); have n1_ := Aside0.mk (blk_below (g := gb818) (o := .cells #[.int .u8 a0_0, .int .u16 0, .bool a0_2, .bool a0_3, .int .i64 a0_4, .int .u8 a0_5, .int .u8 a0_6, .int .u32 a0_7, .int .u32 a0_8, .slice A0_9 l0_9.length c0_9, .slice A0_10 l0_10.length c0_10] 43 (0, 0)) zq16_3 hb); have n2_ := Aside0.mk (below_step zq16_0 hb); clear BK818; clear HB; have HO821 := n0_; have BK818 := n1_; have HB := n2_; clear n0_ n1_ n2_; (try clear hb); (try clear hb2); (try clear hk); (try clear hi); (try clear ho0); obtain ⟨Ao8, co8, eo8⟩ := Kd.R_slice HO821.out; subst eo8))
      go_ret
      exact ⟨by first | rfl | (simp [errW_none, errW_some] <;> rfl) | (simp [*, errW_none, errW_some] <;> rfl), by repeat (first | (with_reducible first | exact HB.out | apply below_alloc | apply pw_below_drewN | apply below_drew1 | refine below_set ?_ GE818.out) | exact HB.out)⟩
    · rw [if_neg c4] at H
      have c4b0 : decide ((t819.length : Int) < 20) = false := decide_eq_false c4
      have c4b1 : decide (t819.length < 20) = false := decide_eq_false (by omega)
      clear c4
      replace H := Option.bind_eq_some_iff.mp H
      obtain ⟨t823, A90, H⟩ := H
      replace H : ((ip4_Build.f k a0_0 (IntKind.u16.wrap (t823)) a0_2 a0_3 a0_4 a0_5 a0_6 a0_7 a0_8 l0_9 l0_10).bind fun bt824 => (if bt824.2 = 0 then (if (bt824.1.length : Int) < 20 then (weftlaw3_zeros.j0 k bt824.1 true a0_0 (IntKind.u16.wrap (t823)) a0_2 a0_3 a0_4 a0_5 a0_6 a0_7 a0_8 l0_9 l0_10) else ((weftlaw3_word.f bt824.1 10).bind fun t828 => (weftlaw3_zeros.j0 k bt824.1 (t828 != 0) a0_0 (IntKind.u16.wrap (t823)) a0_2 a0_3 a0_4 a0_5 a0_6 a0_7 a0_8 l0_9 l0_10))) else (weftlaw3_zeros.j0 k bt824.1 true a0_0 (IntKind.u16.wrap (t823)) a0_2 a0_3 a0_4 a0_5 a0_6 a0_7 a0_8 l0_9 l0_10))) = some r := H
      have A9 := Aside0.mk A90
      clear A90
      replace H := Option.bind_eq_some_iff.mp H
      obtain ⟨⟨t824, t827⟩, A100, H⟩ := H
      replace H : (if t827 = 0 then (if (t824.length : Int) < 20 then (weftlaw3_zeros.j0 k t824 true a0_0 (IntKind.u16.wrap (t823)) a0_2 a0_3 a0_4 a0_5 a0_6 a0_7 a0_8 l0_9 l0_10) else ((weftlaw3_word.f t824 10).bind fun t828 => (weftlaw3_zeros.j0 k t824 (t828 != 0) a0_0 (IntKind.u16.wrap (t823)) a0_2 a0_3 a0_4 a0_5 a0_6 a0_7 a0_8 l0_9 l0_10))) else (weftlaw3_zeros.j0 k t824 true a0_0 (IntKind.u16.wrap (t823)) a0_2 a0_3 a0_4 a0_5 a0_6 a0_7 a0_8 l0_9 l0_10)) = some r := H
      have A10 := Aside0.mk A100
      clear A100
      have HC11 := Aside0.mk H
      clear H
      go_enter Try.func30, Try.ntmps30
      go_upto_region 9 with (first | ((with_reducible refine gate_dst (N := 1) rfl ?_); (try (refine gate_guard (by rfl) ?_; dsimp only)); refine box_event ?hg (N := 1) ?hd (cs := #[.int .u8 a0_0, .int .u16 a0_1, .bool a0_2, .bool a0_3, .int .i64 a0_4, .int .u8 a0_5, .int .u8 a0_6, .int .u32 a0_7, .int .u32 a0_8, .slice A0_9 l0_9.length c0_9, .slice A0_10 l0_10.length c0_10]) (t := 43) ?hr ?_; (case hd => rfl); (case hg => rfl); (case hr => first | (go_simp; done) | (go_simp; rfl)); intro gb818 hg w12 hbox hb; have n0_ := Aside0.mk (below_step zq16_5 hb); have n1_ := Aside0.mk (hbox); have n2_ := Aside0.mk ((by rw [hg]; exact (below_size zq16_5) : w.heap.size ≤ gb818)); have n3_ := Aside0.mk ((by rw [hg]; exact (below_size zq16_5) : w.heap.size ≤ gb818)); clear HB; have HB := n0_; have BK818 := n1_; have GW818 := n2_; have GE818 := n3_; clear n0_ n1_ n2_ n3_; clear hb hbox hg; have hcz13_0 : w12.cell? ⟨gb818, 0, none⟩ = some (.int .u8 a0_0) := (blk_cell BK818.out 0).trans rfl; have hcz13_1 : w12.cell? ⟨gb818, 1, none⟩ = some (.int .u16 a0_1) := (blk_cell BK818.out 1).trans rfl; have hcz13_2 : w12.cell? ⟨gb818, 2, none⟩ = some (.bool a0_2) := (blk_cell BK818.out 2).trans rfl; have hcz13_3 : w12.cell? ⟨gb818, 3, none⟩ = some (.bool a0_3) := (blk_cell BK818.out 3).trans rfl; have hcz13_4 : w12.cell? ⟨gb818, 4, none⟩ = some (.int .i64 a0_4) := (blk_cell BK818.out 4).trans rfl; have hcz13_5 : w12.cell? ⟨gb818, 5, none⟩ = some (.int .u8 a0_5) := (blk_cell BK818.out 5).trans rfl; have hcz13_6 : w12.cell? ⟨gb818, 6, none⟩ = some (.int .u8 a0_6) := (blk_cell BK818.out 6).trans rfl; have hcz13_7 : w12.cell? ⟨gb818, 7, none⟩ = some (.int .u32 a0_7) := (blk_cell BK818.out 7).trans rfl; have hcz13_8 : w12.cell? ⟨gb818, 8, none⟩ = some (.int .u32 a0_8) := (blk_cell BK818.out 8).trans rfl; have hcz13_9 : w12.cell? ⟨gb818, 9, none⟩ = some (.slice A0_9 l0_9.length c0_9) := (blk_cell BK818.out 9).trans rfl; have hcz13_10 : w12.cell? ⟨gb818, 10, none⟩ = some (.slice A0_10 l0_10.length c0_10) := (blk_cell BK818.out 10).trans rfl; have hfz13_0 := blk_frozen BK818.out 0; have hfz13_1 := blk_frozen BK818.out 1; have hfz13_2 := blk_frozen BK818.out 2; have hfz13_3 := blk_frozen BK818.out 3; have hfz13_4 := blk_frozen BK818.out 4; have hfz13_5 := blk_frozen BK818.out 5; have hfz13_6 := blk_frozen BK818.out 6; have hfz13_7 := blk_frozen BK818.out 7; have hfz13_8 := blk_frozen BK818.out 8; have hfz13_9 := blk_frozen BK818.out 9; have hfz13_10 := blk_frozen BK818.out 10) | ((with_reducible refine gate_callee (f := 22) rfl ?_); refine goesL_ (some 18) rfl rfl Try.func22 (by kernel_rfl) rfl #[.agg #[.int .u8 a0_0, .int .u16 0, .bool a0_2, .bool a0_3, .int .i64 a0_4, .int .u8 a0_5, .int .u8 a0_6, .int .u32 a0_7, .int .u32 a0_8, .slice A0_9 l0_9.length c0_9, .slice A0_10 l0_10.length c0_10]] rfl zq16_8 ?_; (with_reducible refine (ip4_Build.calls k a0_0 0 a0_2 a0_3 a0_4 a0_5 a0_6 a0_7 a0_8 _ _ l0_9 _ _ l0_10 t819 t822 _ ?side1 ?side2 ?side3 ?side4 A2.out).mono ?_); (case side1 => exact Kd.C_below HR0_9.out zq16_0); (case side2 => exact HC0_9.out); (case side3 => exact Kd.C_below HR0_10.out zq16_0); (case side4 => exact HC0_10.out); rintro e w14 ⟨v820, rfl, ho0, hb⟩; refine ⟨_, rfl, ?_⟩; have n0_ := Aside0.mk (Kd.R_lower ho0 (below_size zq16_0)); have n1_ := Aside0.mk (blk_below (g := gb818) (o := .cells #[.int .u8 a0_0, .int .u16 0, .bool a0_2, .bool a0_3, .int .i64 a0_4, .int .u8 a0_5, .int .u8 a0_6, .int .u32 a0_7, .int .u32 a0_8, .slice A0_9 l0_9.length c0_9, .slice A0_10 l0_10.length c0_10] 43 (0, 0)) zq16_3 hb); have n2_ := Aside0.mk (below_step zq16_0 hb); clear BK818; clear HB; have HO821 := n0_; have BK818 := n1_; have HB := n2_; clear n0_ n1_ n2_; (try clear hb); (try clear hb2); (try clear hk); (try clear hi); (try clear ho0); obtain ⟨Ao15, co15, eo15⟩ := Kd.R_slice HO821.out; subst eo15) | ((with_reducible refine gate_callee (f := 19) rfl ?_); refine goesL_ (some 30) rfl rfl Try.func19 (by kernel_rfl) rfl #[.slice Ao15 t819.length co15, .int .i64 10] rfl zq16_8 ?_; (with_reducible refine (weftlaw3_word.calls _ _ t819 10 t823 _ ?side1 ?side2 A9.out).mono ?_); (case side1 => repeat (first | exact (Kd.R_reads' HO821.out).2.2 | (with_reducible refine Kd.C_alloc ?_ _) | (with_reducible refine Kd.C_drewN ?_ _) | (with_reducible refine Kd.C_drew ?_))); (case side2 => exact (Kd.R_reads' HO821.out).2.1); rintro e w' ⟨rfl, ⟨nd, rfl⟩⟩; refine ⟨_, rfl, ?_⟩; (try (rw [drewN_self w14]; generalize hq_ : World.drewN w14 _ = w14; have n0_ : Aside0 (Kd.R (Kd.int .u8) 5 w14 w.heap.size (fun _ => True) (.slice Ao15 t819.length co15) t819) := ⟨by rw [← hq_]; exact (by (with_reducible repeat (first | apply Kd.R_alloc | apply Kd.R_drewN | apply Kd.R_drew)); exact HO821.out)⟩; have n1_ : Aside0 (w14.heap[gb818]? = some (.cells #[.int .u8 a0_0, .int .u16 0, .bool a0_2, .bool a0_3, .int .i64 a0_4, .int .u8 a0_5, .int .u8 a0_6, .int .u32 a0_7, .int .u32 a0_8, .slice A0_9 l0_9.length c0_9, .slice A0_10 l0_10.length c0_10] 43 (0, 0))) := ⟨by rw [← hq_]; exact zq16_1⟩; have n2_ : Aside0 (Below w.heap.size w w14) := ⟨by rw [← hq_]; exact zq16_0⟩; clear HO821 BK818 HB hq_; have HO821 := n0_; have BK818 := n1_; have HB := n2_; clear n0_ n1_ n2_)); have hcz16_0 : w14.cell? ⟨gb818, 0, none⟩ = some (.int .u8 a0_0) := (blk_cell BK818.out 0).trans rfl; have hcz16_1 : w14.cell? ⟨gb818, 1, none⟩ = some (.int .u16 0) := (blk_cell BK818.out 1).trans rfl; have hcz16_2 : w14.cell? ⟨gb818, 2, none⟩ = some (.bool a0_2) := (blk_cell BK818.out 2).trans rfl; have hcz16_3 : w14.cell? ⟨gb818, 3, none⟩ = some (.bool a0_3) := (blk_cell BK818.out 3).trans rfl; have hcz16_4 : w14.cell? ⟨gb818, 4, none⟩ = some (.int .i64 a0_4) := (blk_cell BK818.out 4).trans rfl; have hcz16_5 : w14.cell? ⟨gb818, 5, none⟩ = some (.int .u8 a0_5) := (blk_cell BK818.out 5).trans rfl; have hcz16_6 : w14.cell? ⟨gb818, 6, none⟩ = some (.int .u8 a0_6) := (blk_cell BK818.out 6).trans rfl; have hcz16_7 : w14.cell? ⟨gb818, 7, none⟩ = some (.int .u32 a0_7) := (blk_cell BK818.out 7).trans rfl; have hcz16_8 : w14.cell? ⟨gb818, 8, none⟩ = some (.int .u32 a0_8) := (blk_cell BK818.out 8).trans rfl; have hcz16_9 : w14.cell? ⟨gb818, 9, none⟩ = some (.slice A0_9 l0_9.length c0_9) := (blk_cell BK818.out 9).trans rfl; have hcz16_10 : w14.cell? ⟨gb818, 10, none⟩ = some (.slice A0_10 l0_10.length c0_10) := (blk_cell BK818.out 10).trans rfl; have hfz16_0 := blk_frozen BK818.out 0; have hfz16_1 := blk_frozen BK818.out 1; have hfz16_2 := blk_frozen BK818.out 2; have hfz16_3 := blk_frozen BK818.out 3; have hfz16_4 := blk_frozen BK818.out 4; have hfz16_5 := blk_frozen BK818.out 5; have hfz16_6 := blk_frozen BK818.out 6; have hfz16_7 := blk_frozen BK818.out 7; have hfz16_8 := blk_frozen BK818.out 8; have hfz16_9 := blk_frozen BK818.out 9; have hfz16_10 := blk_frozen BK818.out 10) | ((with_reducible refine gate_callee (f := 22) rfl ?_); refine goesL_ (some 36) rfl rfl Try.func22 (by kernel_rfl) rfl #[.agg #[.int .u8 a0_0, .int .u16 (IntKind.u16.wrap (t823)), .bool a0_2, .bool a0_3, .int .i64 a0_4, .int .u8 a0_5, .int .u8 a0_6, .int .u32 a0_7, .int .u32 a0_8, .slice A0_9 l0_9.length c0_9, .slice A0_10 l0_10.length c0_10]] rfl zq16_8 ?_; (with_reducible refine (ip4_Build.calls k a0_0 (IntKind.u16.wrap (t823)) a0_2 a0_3 a0_4 a0_5 a0_6 a0_7 a0_8 _ _ l0_9 _ _ l0_10 t824 t827 _ ?side1 ?side2 ?side3 ?side4 A10.out).mono ?_); (case side1 => exact Kd.C_below HR0_9.out zq16_0); (case side2 => exact HC0_9.out); (case side3 => exact Kd.C_below HR0_10.out zq16_0); (case side4 => exact HC0_10.out); rintro e w17 ⟨v825, rfl, ho0, hb⟩; refine ⟨_, rfl, ?_⟩; have n0_ := Aside0.mk (Kd.R_elder' (by (with_reducible repeat (first | apply Kd.R_alloc | apply Kd.R_drewN | apply Kd.R_drew)); exact (Kd.R_mono (Kd.R_far (p := ⟨gb818, 1, none⟩) (Kd.R_types HO821.out BK818.out (by decide)) (fun _ hk => hk.2) (.int .u16 (IntKind.u16.wrap (t823)))) (fun _ h_ => h_.1))) (Kd.R_base ho0) hb); have n1_ := Aside0.mk (Kd.R_lower (Kd.R_new' ho0 (Kd.R_lt (by (with_reducible repeat (first | apply Kd.R_alloc | apply Kd.R_drewN | apply Kd.R_drew)); exact (Kd.R_mono (Kd.R_far (p := ⟨gb818, 1, none⟩) (Kd.R_types HO821.out BK818.out (by decide)) (fun _ hk => hk.2) (.int .u16 (IntKind.u16.wrap (t823)))) (fun _ h_ => h_.1))))) (below_size zq16_0)); have n2_ := Aside0.mk (blk_below (g := gb818) (o := .cells #[.int .u8 a0_0, .int .u16 (IntKind.u16.wrap (t823)), .bool a0_2, .bool a0_3, .int .i64 a0_4, .int .u8 a0_5, .int .u8 a0_6, .int .u32 a0_7, .int .u32 a0_8, .slice A0_9 l0_9.length c0_9, .slice A0_10 l0_10.length c0_10] 43 (0, 0)) (by (with_reducible repeat (first | refine blk_drewN ?_ _ | refine blk_drew ?_ | refine blk_alloc ?_ _)); refine blk_put (cs := #[.int .u8 a0_0, .int .u16 0, .bool a0_2, .bool a0_3, .int .i64 a0_4, .int .u8 a0_5, .int .u8 a0_6, .int .u32 a0_7, .int .u32 a0_8, .slice A0_9 l0_9.length c0_9, .slice A0_10 l0_10.length c0_10]) ?_ 1 _ rfl; first | (with_reducible exact BK818.out) | (with_reducible exact blk_drewN BK818.out _) | (with_reducible exact blk_drew BK818.out) | ((with_reducible repeat (first | refine blk_drewN ?_ _ | refine blk_drew ?_ | refine blk_alloc ?_ _)); exact BK818.out)) hb); have n3_ := Aside0.mk (below_step zq16_0 hb); clear HO821; clear BK818; clear HB; have HO821 := n0_; have HO826 := n1_; have BK818 := n2_; have HB := n3_; clear n0_ n1_ n2_ n3_; (try clear hb); (try clear hb2); (try clear hk); (try clear hi); (try clear ho0)))
      (try simp only [Act.put, List.setIfInBounds_toArray, List.set_cons_zero, List.set_cons_succ])
      go_cut [50] (fun v50 wc => ∃ (kq : Nat) (x50_10 : Bool), v50 = .bool x50_10 ∧ Aside0 (weftlaw3_zeros.j0 kq t824 x50_10 a0_0 (IntKind.u16.wrap (t823)) a0_2 a0_3 a0_4 a0_5 a0_6 a0_7 a0_8 l0_9 l0_10 = some r) ∧ Aside0 (kq ≤ k) ∧ Aside0 (Kd.R (Kd.int .u8) 5 wc w.heap.size (fun _ => True) v825 t824) ∧ Aside0 (wc.heap[gb818]? = some (.cells #[.int .u8 a0_0, .int .u16 (IntKind.u16.wrap (t823)), .bool a0_2, .bool a0_3, .int .i64 a0_4, .int .u8 a0_5, .int .u8 a0_6, .int .u32 a0_7, .int .u32 a0_8, (.slice A0_9 l0_9.length c0_9), (.slice A0_10 l0_10.length c0_10)] 43 (0, 0))) ∧ Aside0 (Below w.heap.size w wc))
      case first =>
        have H := HC11.out
        clear HC11
        by_cases c18 : t827 = 0
        · rw [if_pos c18] at H
          have c18b0 : (t827 == 0) = true := beq_iff_eq.mpr c18
          have c18b1 : (t827 != 0) = false := bne_eq_false_iff_eq.mpr c18
          clear c18
          (first | rw [c18b0] | (simp only [i64_w, i32_w]; rw [c18b0]) | skip)
          by_cases c19 : (t824.length : Int) < 20
          · rw [if_pos c19] at H
            have c19b0 : decide ((t824.length : Int) < 20) = true := decide_eq_true c19
            have c19b1 : decide (t824.length < 20) = true := decide_eq_true (by omega)
            clear c19
            have H' := Aside0.mk H
            clear H
            obtain ⟨Ao20, co20, eo20⟩ := Kd.R_slice HO826.out
            subst eo20
            go_wp2
            go_meet
            case rel => exact ⟨_, (true), (by first | rfl | (simp; done) | (simp [*]; done)), H', ⟨by first | omega | exact Nat.le_refl _⟩, ⟨by (with_reducible repeat (first | apply Kd.R_alloc | apply Kd.R_drewN | apply Kd.R_drew)); exact Kd.R_mono HO826.out (fun _ hk => trivial)⟩, ⟨by first | (with_reducible exact BK818.out) | (with_reducible exact blk_drewN BK818.out _) | (with_reducible exact blk_drew BK818.out) | ((with_reducible repeat (first | refine blk_drewN ?_ _ | refine blk_drew ?_ | refine blk_alloc ?_ _)); exact BK818.out)⟩, ⟨by repeat (first | (with_reducible first | exact HB.out | apply below_alloc | apply pw_below_drewN | apply below_drew1 | refine below_set ?_ GE818.out) | exact HB.out)⟩⟩
          · rw [if_neg c19] at H
            have c19b0 : decide ((t824.length : Int) < 20) = false := decide_eq_false c19
            have c19b1 : decide (t824.length < 20) = false := decide_eq_false (by omega)
            clear c19
            replace H := Option.bind_eq_some_iff.mp H
            obtain ⟨t828, A210, H⟩ := H
            replace H : (weftlaw3_zeros.j0 k t824 (t828 != 0) a0_0 (IntKind.u16.wrap (t823)) a0_2 a0_3 a0_4 a0_5 a0_6 a0_7 a0_8 l0_9 l0_10) = some r := H
            have A21 := Aside0.mk A210
            clear A210
            have H' := Aside0.mk H
            clear H
            obtain ⟨Ao22, co22, eo22⟩ := Kd.R_slice HO826.out
            subst eo22
            go_wp2_with (first | (go_at_call 19; (with_reducible refine (weftlaw3_word.calls _ _ t824 10 t828 _ ?side1 ?side2 A21.out).mono ?_); (case side1 => repeat (first | exact (Kd.R_reads' HO826.out).2.2 | (with_reducible refine Kd.C_alloc ?_ _) | (with_reducible refine Kd.C_drewN ?_ _) | (with_reducible refine Kd.C_drew ?_))); (case side2 => exact (Kd.R_reads' HO826.out).2.1); rintro e w' ⟨rfl, ⟨nd, rfl⟩⟩))
            go_meet
            case rel => exact ⟨_, ((t828 != 0)), (by first | rfl | (simp; done) | (simp [*]; done)), H', ⟨by first | omega | exact Nat.le_refl _⟩, ⟨by (with_reducible repeat (first | apply Kd.R_alloc | apply Kd.R_drewN | apply Kd.R_drew)); exact Kd.R_mono HO826.out (fun _ hk => trivial)⟩, ⟨by first | (with_reducible exact BK818.out) | (with_reducible exact blk_drewN BK818.out _) | (with_reducible exact blk_drew BK818.out) | ((with_reducible repeat (first | refine blk_drewN ?_ _ | refine blk_drew ?_ | refine blk_alloc ?_ _)); exact BK818.out)⟩, ⟨by repeat (first | (with_reducible first | exact HB.out | apply below_alloc | apply pw_below_drewN | apply below_drew1 | refine below_set ?_ GE818.out) | exact HB.out)⟩⟩
        · rw [if_neg c18] at H
          have c18b0 : (t827 == 0) = false := beq_eq_false_iff_ne.mpr c18
          have c18b1 : (t827 != 0) = true := bne_iff_ne.mpr c18
          (first | rw [c18b0] | (simp only [i64_w, i32_w]; rw [c18b0]) | skip)
          have H' := Aside0.mk H
          clear H
          go_wp2
          go_meet
          case rel => exact ⟨_, (true), (by first | rfl | (simp; done) | (simp [*]; done)), H', ⟨by first | omega | exact Nat.le_refl _⟩, ⟨by (with_reducible repeat (first | apply Kd.R_alloc | apply Kd.R_drewN | apply Kd.R_drew)); exact Kd.R_mono HO826.out (fun _ hk => trivial)⟩, ⟨by first | (with_reducible exact BK818.out) | (with_reducible exact blk_drewN BK818.out _) | (with_reducible exact blk_drew BK818.out) | ((with_reducible repeat (first | refine blk_drewN ?_ _ | refine blk_drew ?_ | refine blk_alloc ?_ _)); exact BK818.out)⟩, ⟨by repeat (first | (with_reducible first | exact HB.out | apply below_alloc | apply pw_below_drewN | apply below_drew1 | refine below_set ?_ GE818.out) | exact HB.out)⟩⟩
      case rest =>
        clear HC11
        try clear c1
        try clear c2
        try clear p2
        try clear c3
        try clear c3b0
        try clear c3b1
        try clear c4
        try clear c4b0
        try clear c4b1
        try clear p4
        try clear c18
        try clear c18b0
        try clear c18b1
        try clear c19
        try clear c19b0
        try clear c19b1
        try clear c22
        try clear hcz13_0
        try clear hcz13_1
        try clear hcz13_10
        try clear hcz13_2
        try clear hcz13_3
        try clear hcz13_4
        try clear hcz13_5
        try clear hcz13_6
        try clear hcz13_7
        try clear hcz13_8
        try clear hcz13_9
        try clear hcz16_0
        try clear hcz16_1
        try clear hcz16_10
        try clear hcz16_2
        try clear hcz16_3
        try clear hcz16_4
        try clear hcz16_5
        try clear hcz16_6
        try clear hcz16_7
        try clear hcz16_8
        try clear hcz16_9
        try clear hcz6_0
        try clear hcz6_1
        try clear hcz6_10
        try clear hcz6_2
        try clear hcz6_3
        try clear hcz6_4
        try clear hcz6_5
        try clear hcz6_6
        try clear hcz6_7
        try clear hcz6_8
        try clear hcz6_9
        try clear hfz13_0
        try clear hfz13_1
        try clear hfz13_10
        try clear hfz13_2
        try clear hfz13_3
        try clear hfz13_4
        try clear hfz13_5
        try clear hfz13_6
        try clear hfz13_7
        try clear hfz13_8
        try clear hfz13_9
        try clear hfz16_0
        try clear hfz16_1
        try clear hfz16_10
        try clear hfz16_2
        try clear hfz16_3
        try clear hfz16_4
        try clear hfz16_5
        try clear hfz16_6
        try clear hfz16_7
        try clear hfz16_8
        try clear hfz16_9
        try clear hfz6_0
        try clear hfz6_1
        try clear hfz6_10
        try clear hfz6_2
        try clear hfz6_3
        try clear hfz6_4
        try clear hfz6_5
        try clear hfz6_6
        try clear hfz6_7
        try clear hfz6_8
        try clear hfz6_9
        obtain ⟨kq, x50_10, rfl, HA, HJ10, HO_5, BK818, HB⟩ := hcut
        cases kq with
        | zero => exact absurd HA.out (by simp [weftlaw3_zeros.j0])
        | succ kj10 =>
          have H := HA.out
          clear HA
          simp only [weftlaw3_zeros.j0] at H
          by_cases c23 : x50_10 = true
          · subst c23
            have H1 : (some false) = some r := by rw [if_pos rfl] at H; exact H
            clear H
            have H := H1
            clear H1
            obtain rfl := Option.some.inj H
            go_wp2
            go_ret
            exact ⟨by first | rfl | (simp [errW_none, errW_some] <;> rfl) | (simp [*, errW_none, errW_some] <;> rfl), by repeat (first | (with_reducible first | exact HB.out | apply below_alloc | apply pw_below_drewN | apply below_drew1 | refine below_set ?_ GE818.out) | exact HB.out)⟩
          · replace c23 := Bool.eq_false_iff.mpr c23
            subst c23
            have H1 : ((weftlaw3_clone.f kj10 t824).bind fun t829 => (if 10 < (t829.length : Int) then (if 11 < (t829.length : Int) then ((some ((t829.set (10 : Int).toNat 255).set (11 : Int).toNat 255 : List Int)).bind fun y833 => ((ip4_Parse.f kj10 y833).bind fun bt834 => ((ip4_Age.f kj10 t824).bind fun bt851 => ((ip4_Age.f kj10 y833).bind fun bt855 => (if a0_5 > 1 then (if bt851.2 = 0 then (weftlaw3_zeros.j1 kj10 bt834.2.2.2.2.2.2.2.2.2.2.2 bt851.1 bt851.2 bt855.1 bt855.2 ((bt851.1.length : Int) != (t824.length : Int)) a0_0 (IntKind.u16.wrap (t823)) a0_2 a0_3 a0_4 a0_5 a0_6 a0_7 a0_8 l0_9 l0_10 bt834.1 bt834.2.1 bt834.2.2.1 bt834.2.2.2.1 bt834.2.2.2.2.1 bt834.2.2.2.2.2.1 bt834.2.2.2.2.2.2.1 bt834.2.2.2.2.2.2.2.1 bt834.2.2.2.2.2.2.2.2.1 bt834.2.2.2.2.2.2.2.2.2.1 bt834.2.2.2.2.2.2.2.2.2.2.1) else (weftlaw3_zeros.j1 kj10 bt834.2.2.2.2.2.2.2.2.2.2.2 bt851.1 bt851.2 bt855.1 bt855.2 true a0_0 (IntKind.u16.wrap (t823)) a0_2 a0_3 a0_4 a0_5 a0_6 a0_7 a0_8 l0_9 l0_10 bt834.1 bt834.2.1 bt834.2.2.1 bt834.2.2.2.1 bt834.2.2.2.2.1 bt834.2.2.2.2.2.1 bt834.2.2.2.2.2.2.1 bt834.2.2.2.2.2.2.2.1 bt834.2.2.2.2.2.2.2.2.1 bt834.2.2.2.2.2.2.2.2.2.1 bt834.2.2.2.2.2.2.2.2.2.2.1)) else (weftlaw3_zeros.j1 kj10 bt834.2.2.2.2.2.2.2.2.2.2.2 bt851.1 bt851.2 bt855.1 bt855.2 false a0_0 (IntKind.u16.wrap (t823)) a0_2 a0_3 a0_4 a0_5 a0_6 a0_7 a0_8 l0_9 l0_10 bt834.1 bt834.2.1 bt834.2.2.1 bt834.2.2.2.1 bt834.2.2.2.2.1 bt834.2.2.2.2.2.1 bt834.2.2.2.2.2.2.1 bt834.2.2.2.2.2.2.2.1 bt834.2.2.2.2.2.2.2.2.1 bt834.2.2.2.2.2.2.2.2.2.1 bt834.2.2.2.2.2.2.2.2.2.2.1)))))) else (none)) else (none))) = some r := by rw [if_neg (show ¬ (false = true) by decide)] at H; exact H
            clear H
            have H := H1
            clear H1
            replace H := Option.bind_eq_some_iff.mp H
            obtain ⟨t829, A240, H⟩ := H
            replace H : (if 10 < (t829.length : Int) then (if 11 < (t829.length : Int) then ((some ((t829.set (10 : Int).toNat 255).set (11 : Int).toNat 255 : List Int)).bind fun y833 => ((ip4_Parse.f kj10 y833).bind fun bt834 => ((ip4_Age.f kj10 t824).bind fun bt851 => ((ip4_Age.f kj10 y833).bind fun bt855 => (if a0_5 > 1 then (if bt851.2 = 0 then (weftlaw3_zeros.j1 kj10 bt834.2.2.2.2.2.2.2.2.2.2.2 bt851.1 bt851.2 bt855.1 bt855.2 ((bt851.1.length : Int) != (t824.length : Int)) a0_0 (IntKind.u16.wrap (t823)) a0_2 a0_3 a0_4 a0_5 a0_6 a0_7 a0_8 l0_9 l0_10 bt834.1 bt834.2.1 bt834.2.2.1 bt834.2.2.2.1 bt834.2.2.2.2.1 bt834.2.2.2.2.2.1 bt834.2.2.2.2.2.2.1 bt834.2.2.2.2.2.2.2.1 bt834.2.2.2.2.2.2.2.2.1 bt834.2.2.2.2.2.2.2.2.2.1 bt834.2.2.2.2.2.2.2.2.2.2.1) else (weftlaw3_zeros.j1 kj10 bt834.2.2.2.2.2.2.2.2.2.2.2 bt851.1 bt851.2 bt855.1 bt855.2 true a0_0 (IntKind.u16.wrap (t823)) a0_2 a0_3 a0_4 a0_5 a0_6 a0_7 a0_8 l0_9 l0_10 bt834.1 bt834.2.1 bt834.2.2.1 bt834.2.2.2.1 bt834.2.2.2.2.1 bt834.2.2.2.2.2.1 bt834.2.2.2.2.2.2.1 bt834.2.2.2.2.2.2.2.1 bt834.2.2.2.2.2.2.2.2.1 bt834.2.2.2.2.2.2.2.2.2.1 bt834.2.2.2.2.2.2.2.2.2.2.1)) else (weftlaw3_zeros.j1 kj10 bt834.2.2.2.2.2.2.2.2.2.2.2 bt851.1 bt851.2 bt855.1 bt855.2 false a0_0 (IntKind.u16.wrap (t823)) a0_2 a0_3 a0_4 a0_5 a0_6 a0_7 a0_8 l0_9 l0_10 bt834.1 bt834.2.1 bt834.2.2.1 bt834.2.2.2.1 bt834.2.2.2.2.1 bt834.2.2.2.2.2.1 bt834.2.2.2.2.2.2.1 bt834.2.2.2.2.2.2.2.1 bt834.2.2.2.2.2.2.2.2.1 bt834.2.2.2.2.2.2.2.2.2.1 bt834.2.2.2.2.2.2.2.2.2.2.1)))))) else (none)) else (none)) = some r := H
            have A24 := Aside0.mk A240
            clear A240
            by_cases c25 : 10 < (t829.length : Int)
            · rw [if_pos c25] at H
              have c25b0 : decide (10 < (t829.length : Int)) = true := decide_eq_true c25
              have c25b1 : decide (10 < t829.length) = true := decide_eq_true (by omega)
              clear c25
              obtain ⟨y832, hy832⟩ : ∃ y_ : List Int, y_ = (t829.set (10 : Int).toNat 255) := ⟨_, rfl⟩
              replace H : (if 11 < (t829.length : Int) then ((some (y832.set (11 : Int).toNat 255 : List Int)).bind fun y833 => ((ip4_Parse.f kj10 y833).bind fun bt834 => ((ip4_Age.f kj10 t824).bind fun bt851 => ((ip4_Age.f kj10 y833).bind fun bt855 => (if a0_5 > 1 then (if bt851.2 = 0 then (weftlaw3_zeros.j1 kj10 bt834.2.2.2.2.2.2.2.2.2.2.2 bt851.1 bt851.2 bt855.1 bt855.2 ((bt851.1.length : Int) != (t824.length : Int)) a0_0 (IntKind.u16.wrap (t823)) a0_2 a0_3 a0_4 a0_5 a0_6 a0_7 a0_8 l0_9 l0_10 bt834.1 bt834.2.1 bt834.2.2.1 bt834.2.2.2.1 bt834.2.2.2.2.1 bt834.2.2.2.2.2.1 bt834.2.2.2.2.2.2.1 bt834.2.2.2.2.2.2.2.1 bt834.2.2.2.2.2.2.2.2.1 bt834.2.2.2.2.2.2.2.2.2.1 bt834.2.2.2.2.2.2.2.2.2.2.1) else (weftlaw3_zeros.j1 kj10 bt834.2.2.2.2.2.2.2.2.2.2.2 bt851.1 bt851.2 bt855.1 bt855.2 true a0_0 (IntKind.u16.wrap (t823)) a0_2 a0_3 a0_4 a0_5 a0_6 a0_7 a0_8 l0_9 l0_10 bt834.1 bt834.2.1 bt834.2.2.1 bt834.2.2.2.1 bt834.2.2.2.2.1 bt834.2.2.2.2.2.1 bt834.2.2.2.2.2.2.1 bt834.2.2.2.2.2.2.2.1 bt834.2.2.2.2.2.2.2.2.1 bt834.2.2.2.2.2.2.2.2.2.1 bt834.2.2.2.2.2.2.2.2.2.2.1)) else (weftlaw3_zeros.j1 kj10 bt834.2.2.2.2.2.2.2.2.2.2.2 bt851.1 bt851.2 bt855.1 bt855.2 false a0_0 (IntKind.u16.wrap (t823)) a0_2 a0_3 a0_4 a0_5 a0_6 a0_7 a0_8 l0_9 l0_10 bt834.1 bt834.2.1 bt834.2.2.1 bt834.2.2.2.1 bt834.2.2.2.2.1 bt834.2.2.2.2.2.1 bt834.2.2.2.2.2.2.1 bt834.2.2.2.2.2.2.2.1 bt834.2.2.2.2.2.2.2.2.1 bt834.2.2.2.2.2.2.2.2.2.1 bt834.2.2.2.2.2.2.2.2.2.2.1)))))) else (none)) = some r := by first | (rw [hy832]; with_reducible exact H) | (have H2_ := (Option.bind_some _ _).symm.trans H; rw [hy832]; with_reducible exact H2_) | (have H2_ := (Option.bind_some _ _).symm.trans H; with_reducible exact H2_) | with_reducible exact H | (rw [hy832]; exact H) | exact H
              have Ny832 := Aside0.mk hy832
              clear hy832
              by_cases c27 : 11 < (t829.length : Int)
              · rw [if_pos c27] at H
                have c27b0 : decide (11 < (t829.length : Int)) = true := decide_eq_true c27
                have c27b1 : decide (11 < t829.length) = true := decide_eq_true (by omega)
                clear c27
                obtain ⟨y833, hy833⟩ : ∃ y_ : List Int, y_ = (y832.set (11 : Int).toNat 255) := ⟨_, rfl⟩
                replace H : ((ip4_Parse.f kj10 y833).bind fun bt834 => ((ip4_Age.f kj10 t824).bind fun bt851 => ((ip4_Age.f kj10 y833).bind fun bt855 => (if a0_5 > 1 then (if bt851.2 = 0 then (weftlaw3_zeros.j1 kj10 bt834.2.2.2.2.2.2.2.2.2.2.2 bt851.1 bt851.2 bt855.1 bt855.2 ((bt851.1.length : Int) != (t824.length : Int)) a0_0 (IntKind.u16.wrap (t823)) a0_2 a0_3 a0_4 a0_5 a0_6 a0_7 a0_8 l0_9 l0_10 bt834.1 bt834.2.1 bt834.2.2.1 bt834.2.2.2.1 bt834.2.2.2.2.1 bt834.2.2.2.2.2.1 bt834.2.2.2.2.2.2.1 bt834.2.2.2.2.2.2.2.1 bt834.2.2.2.2.2.2.2.2.1 bt834.2.2.2.2.2.2.2.2.2.1 bt834.2.2.2.2.2.2.2.2.2.2.1) else (weftlaw3_zeros.j1 kj10 bt834.2.2.2.2.2.2.2.2.2.2.2 bt851.1 bt851.2 bt855.1 bt855.2 true a0_0 (IntKind.u16.wrap (t823)) a0_2 a0_3 a0_4 a0_5 a0_6 a0_7 a0_8 l0_9 l0_10 bt834.1 bt834.2.1 bt834.2.2.1 bt834.2.2.2.1 bt834.2.2.2.2.1 bt834.2.2.2.2.2.1 bt834.2.2.2.2.2.2.1 bt834.2.2.2.2.2.2.2.1 bt834.2.2.2.2.2.2.2.2.1 bt834.2.2.2.2.2.2.2.2.2.1 bt834.2.2.2.2.2.2.2.2.2.2.1)) else (weftlaw3_zeros.j1 kj10 bt834.2.2.2.2.2.2.2.2.2.2.2 bt851.1 bt851.2 bt855.1 bt855.2 false a0_0 (IntKind.u16.wrap (t823)) a0_2 a0_3 a0_4 a0_5 a0_6 a0_7 a0_8 l0_9 l0_10 bt834.1 bt834.2.1 bt834.2.2.1 bt834.2.2.2.1 bt834.2.2.2.2.1 bt834.2.2.2.2.2.1 bt834.2.2.2.2.2.2.1 bt834.2.2.2.2.2.2.2.1 bt834.2.2.2.2.2.2.2.2.1 bt834.2.2.2.2.2.2.2.2.2.1 bt834.2.2.2.2.2.2.2.2.2.2.1))))) = some r := by first | (rw [hy833]; with_reducible exact H) | (have H2_ := (Option.bind_some _ _).symm.trans H; rw [hy833]; with_reducible exact H2_) | (have H2_ := (Option.bind_some _ _).symm.trans H; with_reducible exact H2_) | with_reducible exact H | (rw [hy833]; exact H) | exact H
                have Ny833 := Aside0.mk hy833
                clear hy833
                replace H := Option.bind_eq_some_iff.mp H
                obtain ⟨⟨t834, t835, t836, t837, t838, t839, t840, t841, t842, t843, t846, t849⟩, A290, H⟩ := H
                replace H : ((ip4_Age.f kj10 t824).bind fun bt851 => ((ip4_Age.f kj10 y833).bind fun bt855 => (if a0_5 > 1 then (if bt851.2 = 0 then (weftlaw3_zeros.j1 kj10 t849 bt851.1 bt851.2 bt855.1 bt855.2 ((bt851.1.length : Int) != (t824.length : Int)) a0_0 (IntKind.u16.wrap (t823)) a0_2 a0_3 a0_4 a0_5 a0_6 a0_7 a0_8 l0_9 l0_10 t834 t835 t836 t837 t838 t839 t840 t841 t842 t843 t846) else (weftlaw3_zeros.j1 kj10 t849 bt851.1 bt851.2 bt855.1 bt855.2 true a0_0 (IntKind.u16.wrap (t823)) a0_2 a0_3 a0_4 a0_5 a0_6 a0_7 a0_8 l0_9 l0_10 t834 t835 t836 t837 t838 t839 t840 t841 t842 t843 t846)) else (weftlaw3_zeros.j1 kj10 t849 bt851.1 bt851.2 bt855.1 bt855.2 false a0_0 (IntKind.u16.wrap (t823)) a0_2 a0_3 a0_4 a0_5 a0_6 a0_7 a0_8 l0_9 l0_10 t834 t835 t836 t837 t838 t839 t840 t841 t842 t843 t846)))) = some r := H
                have A29 := Aside0.mk A290
                clear A290
                replace H := Option.bind_eq_some_iff.mp H
                obtain ⟨⟨t851, t852⟩, A300, H⟩ := H
                replace H : ((ip4_Age.f kj10 y833).bind fun bt855 => (if a0_5 > 1 then (if t852 = 0 then (weftlaw3_zeros.j1 kj10 t849 t851 t852 bt855.1 bt855.2 ((t851.length : Int) != (t824.length : Int)) a0_0 (IntKind.u16.wrap (t823)) a0_2 a0_3 a0_4 a0_5 a0_6 a0_7 a0_8 l0_9 l0_10 t834 t835 t836 t837 t838 t839 t840 t841 t842 t843 t846) else (weftlaw3_zeros.j1 kj10 t849 t851 t852 bt855.1 bt855.2 true a0_0 (IntKind.u16.wrap (t823)) a0_2 a0_3 a0_4 a0_5 a0_6 a0_7 a0_8 l0_9 l0_10 t834 t835 t836 t837 t838 t839 t840 t841 t842 t843 t846)) else (weftlaw3_zeros.j1 kj10 t849 t851 t852 bt855.1 bt855.2 false a0_0 (IntKind.u16.wrap (t823)) a0_2 a0_3 a0_4 a0_5 a0_6 a0_7 a0_8 l0_9 l0_10 t834 t835 t836 t837 t838 t839 t840 t841 t842 t843 t846))) = some r := H
                have A30 := Aside0.mk A300
                clear A300
                replace H := Option.bind_eq_some_iff.mp H
                obtain ⟨⟨t855, t856⟩, A310, H⟩ := H
                replace H : (if a0_5 > 1 then (if t852 = 0 then (weftlaw3_zeros.j1 kj10 t849 t851 t852 t855 t856 ((t851.length : Int) != (t824.length : Int)) a0_0 (IntKind.u16.wrap (t823)) a0_2 a0_3 a0_4 a0_5 a0_6 a0_7 a0_8 l0_9 l0_10 t834 t835 t836 t837 t838 t839 t840 t841 t842 t843 t846) else (weftlaw3_zeros.j1 kj10 t849 t851 t852 t855 t856 true a0_0 (IntKind.u16.wrap (t823)) a0_2 a0_3 a0_4 a0_5 a0_6 a0_7 a0_8 l0_9 l0_10 t834 t835 t836 t837 t838 t839 t840 t841 t842 t843 t846)) else (weftlaw3_zeros.j1 kj10 t849 t851 t852 t855 t856 false a0_0 (IntKind.u16.wrap (t823)) a0_2 a0_3 a0_4 a0_5 a0_6 a0_7 a0_8 l0_9 l0_10 t834 t835 t836 t837 t838 t839 t840 t841 t842 t843 t846)) = some r := H
                have A31 := Aside0.mk A310
                clear A310
                have HC32 := Aside0.mk H
                clear H
                obtain ⟨Ao33, co33, eo33⟩ := Kd.R_slice HO_5.out
                subst eo33
                go_upto_region 17 with (first | ((with_reducible refine gate_callee (f := 18) rfl ?_); refine goesL_ (some 52) rfl rfl Try.func18 (by kernel_rfl) rfl #[.slice Ao33 t824.length co33] rfl zq16_8 ?_; (with_reducible refine (weftlaw3_clone.calls kj10 _ _ t824 t829 _ ?side1 ?side2 A24.out).mono ?_); (case side1 => repeat (first | exact (Kd.R_reads' HO_5.out).2.2 | (with_reducible refine Kd.C_alloc ?_ _) | (with_reducible refine Kd.C_drewN ?_ _) | (with_reducible refine Kd.C_drew ?_))); (case side2 => exact (Kd.R_reads' HO_5.out).2.1); rintro e w34 ⟨v830, rfl, ho0, hb⟩; refine ⟨_, rfl, ?_⟩; have n0_ := Aside0.mk (Kd.R_elder' zq16_7 (Kd.R_base ho0) hb); have n1_ := Aside0.mk (Kd.R_lower (Kd.R_new' ho0 (Kd.R_lt zq16_7)) (below_size zq16_0)); have n2_ := Aside0.mk (blk_below (g := gb818) (o := .cells #[.int .u8 a0_0, .int .u16 (IntKind.u16.wrap (t823)), .bool a0_2, .bool a0_3, .int .i64 a0_4, .int .u8 a0_5, .int .u8 a0_6, .int .u32 a0_7, .int .u32 a0_8, .slice A0_9 l0_9.length c0_9, .slice A0_10 l0_10.length c0_10] 43 (0, 0)) zq16_1 hb); have n3_ := Aside0.mk (below_step zq16_0 hb); clear HO_5; clear BK818; clear HB; have HO_5 := n0_; have HO831 := n1_; have BK818 := n2_; have HB := n3_; clear n0_ n1_ n2_ n3_; (try clear hb); (try clear hb2); (try clear hk); (try clear hi); (try clear ho0); have p26 : 0 ≤ (10 : Int) := (by omega); have q26 : (10 : Int) < ((t829.length : Int) : Int) := of_decide_eq_true (by first | (with_reducible assumption) | assumption); have qi26 : (10 < t829.length) = True := eq_true (by omega); obtain ⟨go26, co26, eo26, gb26, gl26, cl26, HG26⟩ := Kd.R_form HO831.out (by omega); (first | cases eo26 | (injection eo26 with ea_ en_ ec_; (first | subst ea_ | (injection ea_ with ea_; subst ea_)); subst ec_; clear en_)); have GB26 := Aside0.mk gb26; have GG26 := Aside0.mk HG26; clear gb26 gl26 HG26; obtain ⟨hx26_0, hf26_0⟩ := Kd.R_celln 0 HO831.out (10 : Int) p26 q26; (try rw [show ((10 : Int)).toNat = 10 from rfl] at hx26_0); (try simp only [Nat.reduceMul, Nat.zero_mul, Nat.zero_add, Nat.reduceAdd] at hx26_0); (try rw [show ((10 : Int)).toNat = 10 from rfl] at hf26_0); (try simp only [Nat.reduceMul, Nat.zero_mul, Nat.zero_add, Nat.reduceAdd] at hf26_0); replace p26 := eq_true p26; replace q26 := eq_true q26; have n_ := Aside0.mk (Kd.R_mono (ok' := (fun k_ => some k_ ≠ (.slice Ao33 t824.length co33 : Value).ownBlock)) HO831.out (fun k_ hk => hk.2)); clear HO831; have HO831 := n_; clear n_; obtain ⟨hy35_, hz35_⟩ := Kd.R_celln 0 HO831.out (10 : Int) (by omega) (of_decide_eq_true (by first | (with_reducible assumption) | assumption)); (try simp only [Int.reduceToNat, Int.toNat_zero, Int.toNat_ofNat, Nat.reduceMul, Nat.zero_mul, Nat.zero_add] at hy35_ hz35_); (try rw [show ((10 : Int)).toNat = 10 from rfl] at hy35_); (try rw [show ((10 : Int)).toNat = 10 from rfl] at hz35_); have HP35 := Kd.R_putg HO831.out (10 : Int) 255) | ((with_reducible refine gate_store (t := 5) (p := 54) rfl ?_); refine store_event (t := 5) (p := 54) (v := ?vo_w36) (w1 := (w34.setCell ⟨go26, (10 : Int).toNat, none⟩ (.int .u8 255))) ?hg ?ho ?hn ?hr ?_; (case ho => rfl); (case hg => rfl); (case hn => rfl); (case hr => first | (go_simp; done) | (go_simp; rfl)); intro w36 hw; have hg : w34.grownBy w36 (some go26) := (by rw [hw]; exact HP35.2); have hp_ : Kd.R (Kd.int .u8) 5 w36 w.heap.size (fun k_ => some k_ ≠ (.slice Ao33 t824.length co33 : Value).ownBlock) (.slice (some ⟨go26, 0, none⟩) t829.length co26) y832 := (by rw [hw, Ny832.out]; exact HP35.1); clear HP35; have n0_ := Aside0.mk (Kd.R_after (v := (.slice (some ⟨go26, 0, none⟩) t829.length co26)) (v1 := (.slice (some ⟨go26, 0, none⟩) t829.length co26)) (ok := (fun _ => True)) zq16_7 hg (.inl rfl)); have n1_ := Aside0.mk (blk_grown (g := gb818) (o := .cells #[.int .u8 a0_0, .int .u16 (IntKind.u16.wrap (t823)), .bool a0_2, .bool a0_3, .int .i64 a0_4, .int .u8 a0_5, .int .u8 a0_6, .int .u32 a0_7, .int .u32 a0_8, .slice A0_9 l0_9.length c0_9, .slice A0_10 l0_10.length c0_10] 43 (0, 0)) zq16_1 hg (Kd.R_ne HO831.out BK818.out (by decide))); have n2_ := Aside0.mk (hp_); have n3_ := Aside0.mk ((by rw [hw]; exact below_set (HB.out) GB26.out : Below w.heap.size w w36)); clear HO_5; clear BK818; clear HO831; clear HB; have HO_5 := n0_; have BK818 := n1_; have HO831 := n2_; have HB := n3_; clear n0_ n1_ n2_ n3_; clear hg hw hp_; have p28 : 0 ≤ (11 : Int) := (by omega); have q28 : (11 : Int) < ((t829.length : Int) : Int) := of_decide_eq_true (by first | (with_reducible assumption) | assumption); have qi28 : (11 < t829.length) = True := eq_true (by omega); obtain ⟨hx28_0, hf28_0⟩ := Kd.R_celln 0 HO831.out (11 : Int) p28 q28; (try rw [show ((11 : Int)).toNat = 11 from rfl] at hx28_0); (try simp only [Nat.reduceMul, Nat.zero_mul, Nat.zero_add, Nat.reduceAdd] at hx28_0); (try rw [show ((11 : Int)).toNat = 11 from rfl] at hf28_0); (try simp only [Nat.reduceMul, Nat.zero_mul, Nat.zero_add, Nat.reduceAdd] at hf28_0); replace p28 := eq_true p28; replace q28 := eq_true q28; obtain ⟨hy37_, hz37_⟩ := Kd.R_celln 0 HO831.out (11 : Int) (by omega) (of_decide_eq_true (by first | (with_reducible assumption) | assumption)); (try simp only [Int.reduceToNat, Int.toNat_zero, Int.toNat_ofNat, Nat.reduceMul, Nat.zero_mul, Nat.zero_add] at hy37_ hz37_); (try rw [show ((11 : Int)).toNat = 11 from rfl] at hy37_); (try rw [show ((11 : Int)).toNat = 11 from rfl] at hz37_); have HP37 := Kd.R_putg HO831.out (11 : Int) 255) | ((with_reducible refine gate_store (t := 5) (p := 56) rfl ?_); refine store_event (t := 5) (p := 56) (v := ?vo_w38) (w1 := (w36.setCell ⟨go26, (11 : Int).toNat, none⟩ (.int .u8 255))) ?hg ?ho ?hn ?hr ?_; (case ho => rfl); (case hg => rfl); (case hn => rfl); (case hr => first | (go_simp; done) | (go_simp; rfl)); intro w38 hw; have hg : w36.grownBy w38 (some go26) := (by rw [hw]; exact HP37.2); have hp_ : Kd.R (Kd.int .u8) 5 w38 w.heap.size (fun k_ => some k_ ≠ (.slice Ao33 t824.length co33 : Value).ownBlock) (.slice (some ⟨go26, 0, none⟩) t829.length co26) y833 := (by rw [hw, Ny833.out]; exact HP37.1); clear HP37; have n0_ := Aside0.mk (Kd.R_after (v := (.slice (some ⟨go26, 0, none⟩) t829.length co26)) (v1 := (.slice (some ⟨go26, 0, none⟩) t829.length co26)) (ok := (fun _ => True)) zq16_7 hg (.inl rfl)); have n1_ := Aside0.mk (blk_grown (g := gb818) (o := .cells #[.int .u8 a0_0, .int .u16 (IntKind.u16.wrap (t823)), .bool a0_2, .bool a0_3, .int .i64 a0_4, .int .u8 a0_5, .int .u8 a0_6, .int .u32 a0_7, .int .u32 a0_8, .slice A0_9 l0_9.length c0_9, .slice A0_10 l0_10.length c0_10] 43 (0, 0)) zq16_1 hg (Kd.R_ne HO831.out BK818.out (by decide))); have n2_ := Aside0.mk (hp_); have n3_ := Aside0.mk ((by rw [hw]; exact below_set (HB.out) GB26.out : Below w.heap.size w w38)); clear HO_5; clear BK818; clear HO831; clear HB; have HO_5 := n0_; have BK818 := n1_; have HO831 := n2_; have HB := n3_; clear n0_ n1_ n2_ n3_; clear hg hw hp_) | ((with_reducible refine gate_callee (f := 38) rfl ?_); refine goesL_ (some 59) rfl rfl Try.func38 (by kernel_rfl) rfl #[.slice (some ⟨go26, 0, none⟩) y833.length co26] rfl (by (try simp only [List.map_toArray, List.map_cons, List.map_nil]); first | done | (rw [show y833.length = t829.length from (Kd.R_reads' HO831.out).1.symm] <;> rfl) | rfl | (simp only [List.length_drop, List.length_take]; rfl)) ?_; (with_reducible refine (ip4_Parse.calls kj10 _ _ y833 t834 t835 t836 t837 t838 t839 t840 t841 t842 t843 t846 t849 _ ?side1 ?side2 A29.out).mono ?_); (case side1 => repeat (first | exact (Kd.R_reads' HO831.out).2.2 | (with_reducible refine Kd.C_alloc ?_ _) | (with_reducible refine Kd.C_drewN ?_ _) | (with_reducible refine Kd.C_drew ?_))); (case side2 => rw [show y833.length = t829.length from (Kd.R_reads' HO831.out).1.symm]; exact (Kd.R_reads' HO831.out).2.1); rintro e w39 ⟨v844, v847, rfl, ho0, ho1, hb⟩; refine ⟨_, rfl, ?_⟩; have n0_ := Aside0.mk (Kd.R_below zq16_7 hb); have n1_ := Aside0.mk (Kd.R_below (by (with_reducible repeat (first | apply Kd.R_alloc | apply Kd.R_drewN | apply Kd.R_drew)); exact HO831.out) hb); have n2_ := Aside0.mk (Kd.V_lower (Kd.V_mono (ok' := fun k_ => some k_ ≠ (.slice Ao33 t824.length co33 : Value).ownBlock ∧ some k_ ≠ (.slice (some ⟨go26, 0, none⟩) t829.length co26 : Value).ownBlock ∧ k_ ≠ gb818) ho0 (fun k_ hk_ => ⟨(Kd.fresh' (Kd.R_lt zq16_7) k_ hk_), (Kd.fresh' (Kd.R_lt (by (with_reducible repeat (first | apply Kd.R_alloc | apply Kd.R_drewN | apply Kd.R_drew)); exact HO831.out)) k_ hk_), (Kd.freshB (g := gb818) (o := .cells #[.int .u8 a0_0, .int .u16 (IntKind.u16.wrap (t823)), .bool a0_2, .bool a0_3, .int .i64 a0_4, .int .u8 a0_5, .int .u8 a0_6, .int .u32 a0_7, .int .u32 a0_8, .slice A0_9 l0_9.length c0_9, .slice A0_10 l0_10.length c0_10] 43 (0, 0)) zq16_1 k_ hk_)⟩)) (below_size zq16_0)); have n3_ := Aside0.mk (Kd.V_lower (Kd.V_mono (ok' := fun k_ => some k_ ≠ (.slice Ao33 t824.length co33 : Value).ownBlock ∧ some k_ ≠ (.slice (some ⟨go26, 0, none⟩) t829.length co26 : Value).ownBlock ∧ k_ ≠ gb818) ho1 (fun k_ hk_ => ⟨(Kd.fresh' (Kd.R_lt zq16_7) k_ hk_), (Kd.fresh' (Kd.R_lt (by (with_reducible repeat (first | apply Kd.R_alloc | apply Kd.R_drewN | apply Kd.R_drew)); exact HO831.out)) k_ hk_), (Kd.freshB (g := gb818) (o := .cells #[.int .u8 a0_0, .int .u16 (IntKind.u16.wrap (t823)), .bool a0_2, .bool a0_3, .int .i64 a0_4, .int .u8 a0_5, .int .u8 a0_6, .int .u32 a0_7, .int .u32 a0_8, .slice A0_9 l0_9.length c0_9, .slice A0_10 l0_10.length c0_10] 43 (0, 0)) zq16_1 k_ hk_)⟩)) (below_size zq16_0)); have n4_ := Aside0.mk (blk_below (g := gb818) (o := .cells #[.int .u8 a0_0, .int .u16 (IntKind.u16.wrap (t823)), .bool a0_2, .bool a0_3, .int .i64 a0_4, .int .u8 a0_5, .int .u8 a0_6, .int .u32 a0_7, .int .u32 a0_8, .slice A0_9 l0_9.length c0_9, .slice A0_10 l0_10.length c0_10] 43 (0, 0)) zq16_1 hb); have n5_ := Aside0.mk (below_step zq16_0 hb); clear HO_5; clear HO831; clear BK818; clear HB; have HO_5 := n0_; have HO831 := n1_; have HO845 := n2_; have HO848 := n3_; have BK818 := n4_; have HB := n5_; clear n0_ n1_ n2_ n3_ n4_ n5_; (try clear hb); (try clear hb2); (try clear hk); (try clear hi); (try clear ho0); (try clear ho1)) | ((with_reducible refine gate_dst (N := 8) rfl ?_); (try (refine gate_guard (by rfl) ?_; dsimp only)); refine box_event ?hg (N := 8) ?hd (cs := #[.int .u8 0, .int .u16 0, .bool false, .bool false, .int .i64 0, .int .u8 0, .int .u8 0, .int .u32 0, .int .u32 0, .slice none 0 0, .slice none 0 0]) (t := 43) ?hr ?_; (case hd => rfl); (case hg => rfl); (case hr => first | (go_simp; done) | (go_simp; rfl)); intro gb850 hg w40 hbox hb; have n0_ := Aside0.mk (Kd.R_below zq16_7 hb); have n1_ := Aside0.mk (Kd.R_below (by (with_reducible repeat (first | apply Kd.R_alloc | apply Kd.R_drewN | apply Kd.R_drew)); exact HO831.out) hb); have n2_ := Aside0.mk (Kd.V_below (Kd.V_elderB (by (with_reducible repeat (first | apply Kd.V_alloc | apply Kd.V_drewN | apply Kd.V_drew)); exact HO845.out) gb850 (Nat.le_of_eq hg.symm)) hb); have n3_ := Aside0.mk (Kd.V_below (Kd.V_elderB (by (with_reducible repeat (first | apply Kd.V_alloc | apply Kd.V_drewN | apply Kd.V_drew)); exact HO848.out) gb850 (Nat.le_of_eq hg.symm)) hb); have n4_ := Aside0.mk (blk_below (g := gb818) (o := .cells #[.int .u8 a0_0, .int .u16 (IntKind.u16.wrap (t823)), .bool a0_2, .bool a0_3, .int .i64 a0_4, .int .u8 a0_5, .int .u8 a0_6, .int .u32 a0_7, .int .u32 a0_8, .slice A0_9 l0_9.length c0_9, .slice A0_10 l0_10.length c0_10] 43 (0, 0)) zq16_1 hb); have n5_ := Aside0.mk (below_step zq16_0 hb); have n6_ := Aside0.mk (hbox); have n7_ := Aside0.mk ((by rw [hg]; exact (below_size zq16_0) : w.heap.size ≤ gb850)); have n8_ := Aside0.mk ((by rw [hg]; exact (below_size zq16_0) : w.heap.size ≤ gb850)); have n9_ := Aside0.mk ((by rw [hg]; exact Nat.ne_of_lt (blk_lt (g := gb818) (o := .cells #[.int .u8 a0_0, .int .u16 (IntKind.u16.wrap (t823)), .bool a0_2, .bool a0_3, .int .i64 a0_4, .int .u8 a0_5, .int .u8 a0_6, .int .u32 a0_7, .int .u32 a0_8, .slice A0_9 l0_9.length c0_9, .slice A0_10 l0_10.length c0_10] 43 (0, 0)) zq16_1) : gb818 ≠ gb850)); have n10_ := Aside0.mk ((by rw [hg]; exact Nat.ne_of_gt (blk_lt (g := gb818) (o := .cells #[.int .u8 a0_0, .int .u16 (IntKind.u16.wrap (t823)), .bool a0_2, .bool a0_3, .int .i64 a0_4, .int .u8 a0_5, .int .u8 a0_6, .int .u32 a0_7, .int .u32 a0_8, .slice A0_9 l0_9.length c0_9, .slice A0_10 l0_10.length c0_10] 43 (0, 0)) zq16_1) : gb850 ≠ gb818)); clear HO_5; clear HO831; clear HO845; clear HO848; clear BK818; clear HB; have HO_5 := n0_; have HO831 := n1_; have HO845 := n2_; have HO848 := n3_; have BK818 := n4_; have HB := n5_; have BK850 := n6_; have GW850 := n7_; have GE850 := n8_; have NB818_850 := n9_; have NB850_818 := n10_; clear n0_ n1_ n2_ n3_ n4_ n5_ n6_ n7_ n8_ n9_ n10_; clear hb hbox hg; have hnb41 := NB850_818.out; have hnc41 := NB818_850.out; have hcz42_0 : w40.cell? ⟨gb850, 0, none⟩ = some (.int .u8 0) := (blk_cell BK850.out 0).trans rfl; have hcz42_1 : w40.cell? ⟨gb850, 1, none⟩ = some (.int .u16 0) := (blk_cell BK850.out 1).trans rfl; have hcz42_2 : w40.cell? ⟨gb850, 2, none⟩ = some (.bool false) := (blk_cell BK850.out 2).trans rfl; have hcz42_3 : w40.cell? ⟨gb850, 3, none⟩ = some (.bool false) := (blk_cell BK850.out 3).trans rfl; have hcz42_4 : w40.cell? ⟨gb850, 4, none⟩ = some (.int .i64 0) := (blk_cell BK850.out 4).trans rfl; have hcz42_5 : w40.cell? ⟨gb850, 5, none⟩ = some (.int .u8 0) := (blk_cell BK850.out 5).trans rfl; have hcz42_6 : w40.cell? ⟨gb850, 6, none⟩ = some (.int .u8 0) := (blk_cell BK850.out 6).trans rfl; have hcz42_7 : w40.cell? ⟨gb850, 7, none⟩ = some (.int .u32 0) := (blk_cell BK850.out 7).trans rfl; have hcz42_8 : w40.cell? ⟨gb850, 8, none⟩ = some (.int .u32 0) := (blk_cell BK850.out 8).trans rfl; have hcz42_9 : w40.cell? ⟨gb850, 9, none⟩ = some (.slice none 0 0) := (blk_cell BK850.out 9).trans rfl; have hcz42_10 : w40.cell? ⟨gb850, 10, none⟩ = some (.slice none 0 0) := (blk_cell BK850.out 10).trans rfl; have hfz42_0 := blk_frozen BK850.out 0; have hfz42_1 := blk_frozen BK850.out 1; have hfz42_2 := blk_frozen BK850.out 2; have hfz42_3 := blk_frozen BK850.out 3; have hfz42_4 := blk_frozen BK850.out 4; have hfz42_5 := blk_frozen BK850.out 5; have hfz42_6 := blk_frozen BK850.out 6; have hfz42_7 := blk_frozen BK850.out 7; have hfz42_8 := blk_frozen BK850.out 8; have hfz42_9 := blk_frozen BK850.out 9; have hfz42_10 := blk_frozen BK850.out 10; obtain ⟨Ao43, co43, eo43⟩ := Kd.V_slice HO845.out; subst eo43; obtain ⟨Ao44, co44, eo44⟩ := Kd.V_slice HO848.out; subst eo44) | ((with_reducible refine gate_callee (f := 52) rfl ?_); refine goesL_ (some 64) rfl rfl Try.func52 (by kernel_rfl) rfl #[.slice Ao33 t824.length co33] rfl zq16_8 ?_; (with_reducible refine (ip4_Age.calls kj10 _ _ t824 t851 t852 _ ?side1 ?side2 A30.out).mono ?_); (case side1 => refine (Kd.R_reads' (e := 5) (base := w.heap.size) (ok := fun k_ => (True ∧ some k_ ≠ (.slice (some ⟨go26, 0, none⟩) t829.length co26 : Value).ownBlock)) (n := t824.length) (c := co33) ?_).2.2; exact zq16_2); (case side2 => exact (Kd.R_reads' HO_5.out).2.1); rintro e w45 ⟨v853, rfl, ho0, hb⟩; refine ⟨_, rfl, ?_⟩; have n0_ := Aside0.mk (Kd.R_elder' zq16_2 (Kd.R_base ho0) hb); have n1_ := Aside0.mk (Kd.R_elder' zq16_6 (Kd.R_base ho0) hb); have n2_ := Aside0.mk (Kd.V_elder' (by (with_reducible repeat (first | apply Kd.V_alloc | apply Kd.V_drewN | apply Kd.V_drew)); exact (Kd.V_mono (Kd.V_far (p := ⟨gb850, 10, none⟩) (Kd.V_far (p := ⟨gb850, 9, none⟩) (Kd.V_far (p := ⟨gb850, 8, none⟩) (Kd.V_far (p := ⟨gb850, 7, none⟩) (Kd.V_far (p := ⟨gb850, 6, none⟩) (Kd.V_far (p := ⟨gb850, 5, none⟩) (Kd.V_far (p := ⟨gb850, 4, none⟩) (Kd.V_far (p := ⟨gb850, 3, none⟩) (Kd.V_far (p := ⟨gb850, 2, none⟩) (Kd.V_far (p := ⟨gb850, 1, none⟩) (Kd.V_far (p := ⟨gb850, 0, none⟩) (Kd.V_mono HO845.out (fun k_ hk => (⟨hk, hk.2⟩ : _ ∧ k_ ≠ gb850))) (fun _ hk => hk.2) (.int .u8 t834)) (fun _ hk => hk.2) (.int .u16 t835)) (fun _ hk => hk.2) (.bool t836)) (fun _ hk => hk.2) (.bool t837)) (fun _ hk => hk.2) (.int .i64 t838)) (fun _ hk => hk.2) (.int .u8 t839)) (fun _ hk => hk.2) (.int .u8 t840)) (fun _ hk => hk.2) (.int .u32 t841)) (fun _ hk => hk.2) (.int .u32 t842)) (fun _ hk => hk.2) (.slice Ao43 t843.length co43)) (fun _ hk => hk.2) (.slice Ao44 t846.length co44)) (fun _ h_ => h_.1))) (Kd.R_base ho0) hb); have n3_ := Aside0.mk (Kd.V_elder' (by (with_reducible repeat (first | apply Kd.V_alloc | apply Kd.V_drewN | apply Kd.V_drew)); exact (Kd.V_mono (Kd.V_far (p := ⟨gb850, 10, none⟩) (Kd.V_far (p := ⟨gb850, 9, none⟩) (Kd.V_far (p := ⟨gb850, 8, none⟩) (Kd.V_far (p := ⟨gb850, 7, none⟩) (Kd.V_far (p := ⟨gb850, 6, none⟩) (Kd.V_far (p := ⟨gb850, 5, none⟩) (Kd.V_far (p := ⟨gb850, 4, none⟩) (Kd.V_far (p := ⟨gb850, 3, none⟩) (Kd.V_far (p := ⟨gb850, 2, none⟩) (Kd.V_far (p := ⟨gb850, 1, none⟩) (Kd.V_far (p := ⟨gb850, 0, none⟩) (Kd.V_mono HO848.out (fun k_ hk => (⟨hk, hk.2⟩ : _ ∧ k_ ≠ gb850))) (fun _ hk => hk.2) (.int .u8 t834)) (fun _ hk => hk.2) (.int .u16 t835)) (fun _ hk => hk.2) (.bool t836)) (fun _ hk => hk.2) (.bool t837)) (fun _ hk => hk.2) (.int .i64 t838)) (fun _ hk => hk.2) (.int .u8 t839)) (fun _ hk => hk.2) (.int .u8 t840)) (fun _ hk => hk.2) (.int .u32 t841)) (fun _ hk => hk.2) (.int .u32 t842)) (fun _ hk => hk.2) (.slice Ao43 t843.length co43)) (fun _ hk => hk.2) (.slice Ao44 t846.length co44)) (fun _ h_ => h_.1))) (Kd.R_base ho0) hb); have n4_ := Aside0.mk (Kd.R_lower (Kd.R_new' (Kd.R_new' ho0 (Kd.R_lt zq16_2)) (Kd.R_lt zq16_6)) (below_size zq16_4)); have n5_ := Aside0.mk (blk_below (g := gb818) (o := .cells #[.int .u8 a0_0, .int .u16 (IntKind.u16.wrap (t823)), .bool a0_2, .bool a0_3, .int .i64 a0_4, .int .u8 a0_5, .int .u8 a0_6, .int .u32 a0_7, .int .u32 a0_8, .slice A0_9 l0_9.length c0_9, .slice A0_10 l0_10.length c0_10] 43 (0, 0)) (by (with_reducible repeat (first | refine blk_drewN ?_ _ | refine blk_drew ?_ | refine blk_alloc ?_ _)); refine blk_far ?_ NB818_850.out _; (with_reducible repeat (first | refine blk_drewN ?_ _ | refine blk_drew ?_ | refine blk_alloc ?_ _)); refine blk_far ?_ NB818_850.out _; (with_reducible repeat (first | refine blk_drewN ?_ _ | refine blk_drew ?_ | refine blk_alloc ?_ _)); refine blk_far ?_ NB818_850.out _; (with_reducible repeat (first | refine blk_drewN ?_ _ | refine blk_drew ?_ | refine blk_alloc ?_ _)); refine blk_far ?_ NB818_850.out _; (with_reducible repeat (first | refine blk_drewN ?_ _ | refine blk_drew ?_ | refine blk_alloc ?_ _)); refine blk_far ?_ NB818_850.out _; (with_reducible repeat (first | refine blk_drewN ?_ _ | refine blk_drew ?_ | refine blk_alloc ?_ _)); refine blk_far ?_ NB818_850.out _; (with_reducible repeat (first | refine blk_drewN ?_ _ | refine blk_drew ?_ | refine blk_alloc ?_ _)); refine blk_far ?_ NB818_850.out _; (with_reducible repeat (first | refine blk_drewN ?_ _ | refine blk_drew ?_ | refine blk_alloc ?_ _)); refine blk_far ?_ NB818_850.out _; (with_reducible repeat (first | refine blk_drewN ?_ _ | refine blk_drew ?_ | refine blk_alloc ?_ _)); refine blk_far ?_ NB818_850.out _; (with_reducible repeat (first | refine blk_drewN ?_ _ | refine blk_drew ?_ | refine blk_alloc ?_ _)); refine blk_far ?_ NB818_850.out _; (with_reducible repeat (first | refine blk_drewN ?_ _ | refine blk_drew ?_ | refine blk_alloc ?_ _)); refine blk_far ?_ NB818_850.out _; first | (with_reducible exact BK818.out) | (with_reducible exact blk_drewN BK818.out _) | (with_reducible exact blk_drew BK818.out) | ((with_reducible repeat (first | refine blk_drewN ?_ _ | refine blk_drew ?_ | refine blk_alloc ?_ _)); exact BK818.out)) hb); have n6_ := Aside0.mk (blk_below (g := gb850) (o := .cells #[.int .u8 t834, .int .u16 t835, .bool t836, .bool t837, .int .i64 t838, .int .u8 t839, .int .u8 t840, .int .u32 t841, .int .u32 t842, .slice Ao43 t843.length co43, .slice Ao44 t846.length co44] 43 (0, 0)) (by (with_reducible repeat (first | refine blk_drewN ?_ _ | refine blk_drew ?_ | refine blk_alloc ?_ _)); refine blk_put (cs := #[.int .u8 t834, .int .u16 t835, .bool t836, .bool t837, .int .i64 t838, .int .u8 t839, .int .u8 t840, .int .u32 t841, .int .u32 t842, .slice Ao43 t843.length co43, .slice none 0 0]) ?_ 10 _ rfl; (with_reducible repeat (first | refine blk_drewN ?_ _ | refine blk_drew ?_ | refine blk_alloc ?_ _)); refine blk_put (cs := #[.int .u8 t834, .int .u16 t835, .bool t836, .bool t837, .int .i64 t838, .int .u8 t839, .int .u8 t840, .int .u32 t841, .int .u32 t842, .slice none 0 0, .slice none 0 0]) ?_ 9 _ rfl; (with_reducible repeat (first | refine blk_drewN ?_ _ | refine blk_drew ?_ | refine blk_alloc ?_ _)); refine blk_put (cs := #[.int .u8 t834, .int .u16 t835, .bool t836, .bool t837, .int .i64 t838, .int .u8 t839, .int .u8 t840, .int .u32 t841, .int .u32 0, .slice none 0 0, .slice none 0 0]) ?_ 8 _ rfl; (with_reducible repeat (first | refine blk_drewN ?_ _ | refine blk_drew ?_ | refine blk_alloc ?_ _)); refine blk_put (cs := #[.int .u8 t834, .int .u16 t835, .bool t836, .bool t837, .int .i64 t838, .int .u8 t839, .int .u8 t840, .int .u32 0, .int .u32 0, .slice none 0 0, .slice none 0 0]) ?_ 7 _ rfl; (with_reducible repeat (first | refine blk_drewN ?_ _ | refine blk_drew ?_ | refine blk_alloc ?_ _)); refine blk_put (cs := #[.int .u8 t834, .int .u16 t835, .bool t836, .bool t837, .int .i64 t838, .int .u8 t839, .int .u8 0, .int .u32 0, .int .u32 0, .slice none 0 0, .slice none 0 0]) ?_ 6 _ rfl; (with_reducible repeat (first | refine blk_drewN ?_ _ | refine blk_drew ?_ | refine blk_alloc ?_ _)); refine blk_put (cs := #[.int .u8 t834, .int .u16 t835, .bool t836, .bool t837, .int .i64 t838, .int .u8 0, .int .u8 0, .int .u32 0, .int .u32 0, .slice none 0 0, .slice none 0 0]) ?_ 5 _ rfl; (with_reducible repeat (first | refine blk_drewN ?_ _ | refine blk_drew ?_ | refine blk_alloc ?_ _)); refine blk_put (cs := #[.int .u8 t834, .int .u16 t835, .bool t836, .bool t837, .int .i64 0, .int .u8 0, .int .u8 0, .int .u32 0, .int .u32 0, .slice none 0 0, .slice none 0 0]) ?_ 4 _ rfl; (with_reducible repeat (first | refine blk_drewN ?_ _ | refine blk_drew ?_ | refine blk_alloc ?_ _)); refine blk_put (cs := #[.int .u8 t834, .int .u16 t835, .bool t836, .bool false, .int .i64 0, .int .u8 0, .int .u8 0, .int .u32 0, .int .u32 0, .slice none 0 0, .slice none 0 0]) ?_ 3 _ rfl; (with_reducible repeat (first | refine blk_drewN ?_ _ | refine blk_drew ?_ | refine blk_alloc ?_ _)); refine blk_put (cs := #[.int .u8 t834, .int .u16 t835, .bool false, .bool false, .int .i64 0, .int .u8 0, .int .u8 0, .int .u32 0, .int .u32 0, .slice none 0 0, .slice none 0 0]) ?_ 2 _ rfl; (with_reducible repeat (first | refine blk_drewN ?_ _ | refine blk_drew ?_ | refine blk_alloc ?_ _)); refine blk_put (cs := #[.int .u8 t834, .int .u16 0, .bool false, .bool false, .int .i64 0, .int .u8 0, .int .u8 0, .int .u32 0, .int .u32 0, .slice none 0 0, .slice none 0 0]) ?_ 1 _ rfl; (with_reducible repeat (first | refine blk_drewN ?_ _ | refine blk_drew ?_ | refine blk_alloc ?_ _)); refine blk_put (cs := #[.int .u8 0, .int .u16 0, .bool false, .bool false, .int .i64 0, .int .u8 0, .int .u8 0, .int .u32 0, .int .u32 0, .slice none 0 0, .slice none 0 0]) ?_ 0 _ rfl; first | (with_reducible exact BK850.out) | (with_reducible exact blk_drewN BK850.out _) | (with_reducible exact blk_drew BK850.out) | ((with_reducible repeat (first | refine blk_drewN ?_ _ | refine blk_drew ?_ | refine blk_alloc ?_ _)); exact BK850.out)) hb); have n7_ := Aside0.mk (below_step zq16_4 hb); clear HO_5; clear HO831; clear HO845; clear HO848; clear BK818; clear BK850; clear HB; have HO_5 := n0_; have HO831 := n1_; have HO845 := n2_; have HO848 := n3_; have HO854 := n4_; have BK818 := n5_; have BK850 := n6_; have HB := n7_; clear n0_ n1_ n2_ n3_ n4_ n5_ n6_ n7_; (try clear hb); (try clear hb2); (try clear hk); (try clear hi); (try clear ho0)) | ((with_reducible refine gate_callee (f := 52) rfl ?_); refine goesL_ (some 69) rfl rfl Try.func52 (by kernel_rfl) rfl #[.slice (some ⟨go26, 0, none⟩) y833.length co26] rfl (by (try simp only [List.map_toArray, List.map_cons, List.map_nil]); first | done | (rw [show y833.length = t829.length from (Kd.R_reads' HO831.out).1.symm] <;> rfl) | rfl | (simp only [List.length_drop, List.length_take]; rfl)) ?_; (with_reducible refine (ip4_Age.calls kj10 _ _ y833 t855 t856 _ ?side1 ?side2 A31.out).mono ?_); (case side1 => repeat (first | exact (Kd.R_reads' HO831.out).2.2 | (with_reducible refine Kd.C_alloc ?_ _) | (with_reducible refine Kd.C_drewN ?_ _) | (with_reducible refine Kd.C_drew ?_))); (case side2 => rw [show y833.length = t829.length from (Kd.R_reads' HO831.out).1.symm]; exact (Kd.R_reads' HO831.out).2.1); rintro e w46 ⟨v857, rfl, ho0, hb⟩; refine ⟨_, rfl, ?_⟩; have n0_ := Aside0.mk (Kd.R_elder' zq16_7 (Kd.R_base ho0) hb); have n1_ := Aside0.mk (Kd.R_elder' (by (with_reducible repeat (first | apply Kd.R_alloc | apply Kd.R_drewN | apply Kd.R_drew)); exact HO831.out) (Kd.R_base ho0) hb); have n2_ := Aside0.mk (Kd.V_elder' (by (with_reducible repeat (first | apply Kd.V_alloc | apply Kd.V_drewN | apply Kd.V_drew)); exact HO845.out) (Kd.R_base ho0) hb); have n3_ := Aside0.mk (Kd.V_elder' (by (with_reducible repeat (first | apply Kd.V_alloc | apply Kd.V_drewN | apply Kd.V_drew)); exact HO848.out) (Kd.R_base ho0) hb); have n4_ := Aside0.mk (Kd.R_elder' (by (with_reducible repeat (first | apply Kd.R_alloc | apply Kd.R_drewN | apply Kd.R_drew)); exact HO854.out) (Kd.R_base ho0) hb); have n5_ := Aside0.mk (Kd.R_lower (Kd.R_new' (Kd.R_new' (Kd.R_new' ho0 (Kd.R_lt zq16_7)) (Kd.R_lt (by (with_reducible repeat (first | apply Kd.R_alloc | apply Kd.R_drewN | apply Kd.R_drew)); exact HO831.out))) (Kd.R_lt (by (with_reducible repeat (first | apply Kd.R_alloc | apply Kd.R_drewN | apply Kd.R_drew)); exact HO854.out))) (below_size zq16_4)); have n6_ := Aside0.mk (blk_below (g := gb818) (o := .cells #[.int .u8 a0_0, .int .u16 (IntKind.u16.wrap (t823)), .bool a0_2, .bool a0_3, .int .i64 a0_4, .int .u8 a0_5, .int .u8 a0_6, .int .u32 a0_7, .int .u32 a0_8, .slice A0_9 l0_9.length c0_9, .slice A0_10 l0_10.length c0_10] 43 (0, 0)) zq16_1 hb); have n7_ := Aside0.mk (blk_below (g := gb850) (o := .cells #[.int .u8 t834, .int .u16 t835, .bool t836, .bool t837, .int .i64 t838, .int .u8 t839, .int .u8 t840, .int .u32 t841, .int .u32 t842, .slice Ao43 t843.length co43, .slice Ao44 t846.length co44] 43 (0, 0)) zq16_9 hb); have n8_ := Aside0.mk (below_step zq16_4 hb); clear HO_5; clear HO831; clear HO845; clear HO848; clear HO854; clear BK818; clear BK850; clear HB; have HO_5 := n0_; have HO831 := n1_; have HO845 := n2_; have HO848 := n3_; have HO854 := n4_; have HO858 := n5_; have BK818 := n6_; have BK850 := n7_; have HB := n8_; clear n0_ n1_ n2_ n3_ n4_ n5_ n6_ n7_ n8_; (try clear hb); (try clear hb2); (try clear hk); (try clear hi); (try clear ho0)))
                (try simp only [Act.put, List.setIfInBounds_toArray, List.set_cons_zero, List.set_cons_succ])
                go_cut [86] (fun v86 wc => ∃ (kq : Nat) (x86_31 : Bool), v86 = .bool x86_31 ∧ Aside0 (weftlaw3_zeros.j1 kq t849 t851 t852 t855 t856 x86_31 a0_0 (IntKind.u16.wrap (t823)) a0_2 a0_3 a0_4 a0_5 a0_6 a0_7 a0_8 l0_9 l0_10 t834 t835 t836 t837 t838 t839 t840 t841 t842 t843 t846 = some r) ∧ Aside0 (kq ≤ kj10) ∧ Aside0 (Kd.R (Kd.int .u8) 5 wc w.heap.size (fun k_ => some k_ ≠ (v857 : Value).ownBlock) v853 t851) ∧ Aside0 (Kd.R (Kd.int .u8) 5 wc w.heap.size (fun k_ => some k_ ≠ (v853 : Value).ownBlock) v857 t855) ∧ Aside0 (Kd.V (Kd.int .u8) 5 wc w.heap.size (fun k_ => some k_ ≠ (v853 : Value).ownBlock ∧ some k_ ≠ (v857 : Value).ownBlock ∧ k_ ≠ gb818 ∧ k_ ≠ gb850) (.slice Ao43 t843.length co43) t843) ∧ Aside0 (Kd.V (Kd.int .u8) 5 wc w.heap.size (fun k_ => some k_ ≠ (v853 : Value).ownBlock ∧ some k_ ≠ (v857 : Value).ownBlock ∧ k_ ≠ gb818 ∧ k_ ≠ gb850) (.slice Ao44 t846.length co44) t846) ∧ Aside0 (wc.heap[gb818]? = some (.cells #[.int .u8 a0_0, .int .u16 (IntKind.u16.wrap (t823)), .bool a0_2, .bool a0_3, .int .i64 a0_4, .int .u8 a0_5, .int .u8 a0_6, .int .u32 a0_7, .int .u32 a0_8, (.slice A0_9 l0_9.length c0_9), (.slice A0_10 l0_10.length c0_10)] 43 (0, 0))) ∧ Aside0 (wc.heap[gb850]? = some (.cells #[.int .u8 t834, .int .u16 t835, .bool t836, .bool t837, .int .i64 t838, .int .u8 t839, .int .u8 t840, .int .u32 t841, .int .u32 t842, (.slice Ao43 t843.length co43), (.slice Ao44 t846.length co44)] 43 (0, 0))) ∧ Aside0 (Below w.heap.size w wc))
                case first =>
                  have H := HC32.out
                  clear HC32
                  by_cases c47 : a0_5 > 1
                  · rw [if_pos c47] at H
                    have c47b0 : decide (1 < a0_5) = true := decide_eq_true c47
                    clear c47
                    (first | rw [c47b0] | (simp only [i64_w, i32_w]; rw [c47b0]) | skip)
                    by_cases c48 : t852 = 0
                    · rw [if_pos c48] at H
                      have c48b0 : (t852 == 0) = true := beq_iff_eq.mpr c48
                      have c48b1 : (t852 != 0) = false := bne_eq_false_iff_eq.mpr c48
                      clear c48
                      have H' := Aside0.mk H
                      clear H
                      have hnb49 := NB818_850.out
                      have hnc49 := NB850_818.out
                      have hcz50_0 : w46.cell? ⟨gb818, 0, none⟩ = some (.int .u8 a0_0) := (blk_cell BK818.out 0).trans rfl
                      have hcz50_1 : w46.cell? ⟨gb818, 1, none⟩ = some (.int .u16 (IntKind.u16.wrap (t823))) := (blk_cell BK818.out 1).trans rfl
                      have hcz50_2 : w46.cell? ⟨gb818, 2, none⟩ = some (.bool a0_2) := (blk_cell BK818.out 2).trans rfl
                      have hcz50_3 : w46.cell? ⟨gb818, 3, none⟩ = some (.bool a0_3) := (blk_cell BK818.out 3).trans rfl
                      have hcz50_4 : w46.cell? ⟨gb818, 4, none⟩ = some (.int .i64 a0_4) := (blk_cell BK818.out 4).trans rfl
                      have hcz50_5 : w46.cell? ⟨gb818, 5, none⟩ = some (.int .u8 a0_5) := (blk_cell BK818.out 5).trans rfl
                      have hcz50_6 : w46.cell? ⟨gb818, 6, none⟩ = some (.int .u8 a0_6) := (blk_cell BK818.out 6).trans rfl
                      have hcz50_7 : w46.cell? ⟨gb818, 7, none⟩ = some (.int .u32 a0_7) := (blk_cell BK818.out 7).trans rfl
                      have hcz50_8 : w46.cell? ⟨gb818, 8, none⟩ = some (.int .u32 a0_8) := (blk_cell BK818.out 8).trans rfl
                      have hcz50_9 : w46.cell? ⟨gb818, 9, none⟩ = some (.slice A0_9 l0_9.length c0_9) := (blk_cell BK818.out 9).trans rfl
                      have hcz50_10 : w46.cell? ⟨gb818, 10, none⟩ = some (.slice A0_10 l0_10.length c0_10) := (blk_cell BK818.out 10).trans rfl
                      have hfz50_0 := blk_frozen BK818.out 0
                      have hfz50_1 := blk_frozen BK818.out 1
                      have hfz50_2 := blk_frozen BK818.out 2
                      have hfz50_3 := blk_frozen BK818.out 3
                      have hfz50_4 := blk_frozen BK818.out 4
                      have hfz50_5 := blk_frozen BK818.out 5
                      have hfz50_6 := blk_frozen BK818.out 6
                      have hfz50_7 := blk_frozen BK818.out 7
                      have hfz50_8 := blk_frozen BK818.out 8
                      have hfz50_9 := blk_frozen BK818.out 9
                      have hfz50_10 := blk_frozen BK818.out 10
                      obtain ⟨Ao51, co51, eo51⟩ := Kd.R_slice HO854.out
                      subst eo51
                      go_wp2
                      go_meet
                      case rel => exact ⟨_, (((t851.length : Int) != (t824.length : Int))), (by first | rfl | (simp; done) | (simp [*]; done)), H', ⟨by have := HJ10.out; first | omega | exact Nat.le_refl _⟩, ⟨by (with_reducible repeat (first | apply Kd.R_alloc | apply Kd.R_drewN | apply Kd.R_drew)); exact Kd.R_mono HO854.out (fun _ hk => hk.2)⟩, ⟨by (with_reducible repeat (first | apply Kd.R_alloc | apply Kd.R_drewN | apply Kd.R_drew)); exact Kd.R_mono HO858.out (fun _ hk => hk.2)⟩, ⟨by (with_reducible repeat (first | apply Kd.V_alloc | apply Kd.V_drewN | apply Kd.V_drew)); exact Kd.V_mono HO845.out (fun _ hk => ⟨hk.1.2, ⟨hk.2, ⟨hk.1.1.1.2.2, hk.1.1.2⟩⟩⟩)⟩, ⟨by (with_reducible repeat (first | apply Kd.V_alloc | apply Kd.V_drewN | apply Kd.V_drew)); exact Kd.V_mono HO848.out (fun _ hk => ⟨hk.1.2, ⟨hk.2, ⟨hk.1.1.1.2.2, hk.1.1.2⟩⟩⟩)⟩, ⟨by first | (with_reducible exact BK818.out) | (with_reducible exact blk_drewN BK818.out _) | (with_reducible exact blk_drew BK818.out) | ((with_reducible repeat (first | refine blk_drewN ?_ _ | refine blk_drew ?_ | refine blk_alloc ?_ _)); exact BK818.out)⟩, ⟨by first | (with_reducible exact BK850.out) | (with_reducible exact blk_drewN BK850.out _) | (with_reducible exact blk_drew BK850.out) | ((with_reducible repeat (first | refine blk_drewN ?_ _ | refine blk_drew ?_ | refine blk_alloc ?_ _)); exact BK850.out)⟩, ⟨by repeat (first | (with_reducible first | exact HB.out | apply below_alloc | apply pw_below_drewN | apply below_drew1 | refine below_set ?_ GE818.out | refine below_set ?_ GE850.out) | exact HB.out)⟩⟩
                    · rw [if_neg c48] at H
                      have c48b0 : (t852 == 0) = false := beq_eq_false_iff_ne.mpr c48
                      have c48b1 : (t852 != 0) = true := bne_iff_ne.mpr c48
                      have H' := Aside0.mk H
                      clear H
                      have hnb52 := NB818_850.out
                      have hnc52 := NB850_818.out
                      have hcz53_0 : w46.cell? ⟨gb818, 0, none⟩ = some (.int .u8 a0_0) := (blk_cell BK818.out 0).trans rfl
                      have hcz53_1 : w46.cell? ⟨gb818, 1, none⟩ = some (.int .u16 (IntKind.u16.wrap (t823))) := (blk_cell BK818.out 1).trans rfl
                      have hcz53_2 : w46.cell? ⟨gb818, 2, none⟩ = some (.bool a0_2) := (blk_cell BK818.out 2).trans rfl
                      have hcz53_3 : w46.cell? ⟨gb818, 3, none⟩ = some (.bool a0_3) := (blk_cell BK818.out 3).trans rfl
                      have hcz53_4 : w46.cell? ⟨gb818, 4, none⟩ = some (.int .i64 a0_4) := (blk_cell BK818.out 4).trans rfl
                      have hcz53_5 : w46.cell? ⟨gb818, 5, none⟩ = some (.int .u8 a0_5) := (blk_cell BK818.out 5).trans rfl
                      have hcz53_6 : w46.cell? ⟨gb818, 6, none⟩ = some (.int .u8 a0_6) := (blk_cell BK818.out 6).trans rfl
                      have hcz53_7 : w46.cell? ⟨gb818, 7, none⟩ = some (.int .u32 a0_7) := (blk_cell BK818.out 7).trans rfl
                      have hcz53_8 : w46.cell? ⟨gb818, 8, none⟩ = some (.int .u32 a0_8) := (blk_cell BK818.out 8).trans rfl
                      have hcz53_9 : w46.cell? ⟨gb818, 9, none⟩ = some (.slice A0_9 l0_9.length c0_9) := (blk_cell BK818.out 9).trans rfl
                      have hcz53_10 : w46.cell? ⟨gb818, 10, none⟩ = some (.slice A0_10 l0_10.length c0_10) := (blk_cell BK818.out 10).trans rfl
                      have hfz53_0 := blk_frozen BK818.out 0
                      have hfz53_1 := blk_frozen BK818.out 1
                      have hfz53_2 := blk_frozen BK818.out 2
                      have hfz53_3 := blk_frozen BK818.out 3
                      have hfz53_4 := blk_frozen BK818.out 4
                      have hfz53_5 := blk_frozen BK818.out 5
                      have hfz53_6 := blk_frozen BK818.out 6
                      have hfz53_7 := blk_frozen BK818.out 7
                      have hfz53_8 := blk_frozen BK818.out 8
                      have hfz53_9 := blk_frozen BK818.out 9
                      have hfz53_10 := blk_frozen BK818.out 10
                      go_wp2
                      go_meet
                      case rel => exact ⟨_, (true), (by first | rfl | (simp; done) | (simp [*]; done)), H', ⟨by have := HJ10.out; first | omega | exact Nat.le_refl _⟩, ⟨by (with_reducible repeat (first | apply Kd.R_alloc | apply Kd.R_drewN | apply Kd.R_drew)); exact Kd.R_mono HO854.out (fun _ hk => hk.2)⟩, ⟨by (with_reducible repeat (first | apply Kd.R_alloc | apply Kd.R_drewN | apply Kd.R_drew)); exact Kd.R_mono HO858.out (fun _ hk => hk.2)⟩, ⟨by (with_reducible repeat (first | apply Kd.V_alloc | apply Kd.V_drewN | apply Kd.V_drew)); exact Kd.V_mono HO845.out (fun _ hk => ⟨hk.1.2, ⟨hk.2, ⟨hk.1.1.1.2.2, hk.1.1.2⟩⟩⟩)⟩, ⟨by (with_reducible repeat (first | apply Kd.V_alloc | apply Kd.V_drewN | apply Kd.V_drew)); exact Kd.V_mono HO848.out (fun _ hk => ⟨hk.1.2, ⟨hk.2, ⟨hk.1.1.1.2.2, hk.1.1.2⟩⟩⟩)⟩, ⟨by first | (with_reducible exact BK818.out) | (with_reducible exact blk_drewN BK818.out _) | (with_reducible exact blk_drew BK818.out) | ((with_reducible repeat (first | refine blk_drewN ?_ _ | refine blk_drew ?_ | refine blk_alloc ?_ _)); exact BK818.out)⟩, ⟨by first | (with_reducible exact BK850.out) | (with_reducible exact blk_drewN BK850.out _) | (with_reducible exact blk_drew BK850.out) | ((with_reducible repeat (first | refine blk_drewN ?_ _ | refine blk_drew ?_ | refine blk_alloc ?_ _)); exact BK850.out)⟩, ⟨by repeat (first | (with_reducible first | exact HB.out | apply below_alloc | apply pw_below_drewN | apply below_drew1 | refine below_set ?_ GE818.out | refine below_set ?_ GE850.out) | exact HB.out)⟩⟩
                  · rw [if_neg c47] at H
                    have c47b0 : decide (1 < a0_5) = false := decide_eq_false c47
                    clear c47
                    (first | rw [c47b0] | (simp only [i64_w, i32_w]; rw [c47b0]) | skip)
                    have H' := Aside0.mk H
                    clear H
                    have hnb54 := NB818_850.out
                    have hnc54 := NB850_818.out
                    have hcz55_0 : w46.cell? ⟨gb818, 0, none⟩ = some (.int .u8 a0_0) := (blk_cell BK818.out 0).trans rfl
                    have hcz55_1 : w46.cell? ⟨gb818, 1, none⟩ = some (.int .u16 (IntKind.u16.wrap (t823))) := (blk_cell BK818.out 1).trans rfl
                    have hcz55_2 : w46.cell? ⟨gb818, 2, none⟩ = some (.bool a0_2) := (blk_cell BK818.out 2).trans rfl
                    have hcz55_3 : w46.cell? ⟨gb818, 3, none⟩ = some (.bool a0_3) := (blk_cell BK818.out 3).trans rfl
                    have hcz55_4 : w46.cell? ⟨gb818, 4, none⟩ = some (.int .i64 a0_4) := (blk_cell BK818.out 4).trans rfl
                    have hcz55_5 : w46.cell? ⟨gb818, 5, none⟩ = some (.int .u8 a0_5) := (blk_cell BK818.out 5).trans rfl
                    have hcz55_6 : w46.cell? ⟨gb818, 6, none⟩ = some (.int .u8 a0_6) := (blk_cell BK818.out 6).trans rfl
                    have hcz55_7 : w46.cell? ⟨gb818, 7, none⟩ = some (.int .u32 a0_7) := (blk_cell BK818.out 7).trans rfl
                    have hcz55_8 : w46.cell? ⟨gb818, 8, none⟩ = some (.int .u32 a0_8) := (blk_cell BK818.out 8).trans rfl
                    have hcz55_9 : w46.cell? ⟨gb818, 9, none⟩ = some (.slice A0_9 l0_9.length c0_9) := (blk_cell BK818.out 9).trans rfl
                    have hcz55_10 : w46.cell? ⟨gb818, 10, none⟩ = some (.slice A0_10 l0_10.length c0_10) := (blk_cell BK818.out 10).trans rfl
                    have hfz55_0 := blk_frozen BK818.out 0
                    have hfz55_1 := blk_frozen BK818.out 1
                    have hfz55_2 := blk_frozen BK818.out 2
                    have hfz55_3 := blk_frozen BK818.out 3
                    have hfz55_4 := blk_frozen BK818.out 4
                    have hfz55_5 := blk_frozen BK818.out 5
                    have hfz55_6 := blk_frozen BK818.out 6
                    have hfz55_7 := blk_frozen BK818.out 7
                    have hfz55_8 := blk_frozen BK818.out 8
                    have hfz55_9 := blk_frozen BK818.out 9
                    have hfz55_10 := blk_frozen BK818.out 10
                    go_wp2
                    go_meet
                    case rel => exact ⟨_, (false), (by first | rfl | (simp; done) | (simp [*]; done)), H', ⟨by have := HJ10.out; first | omega | exact Nat.le_refl _⟩, ⟨by (with_reducible repeat (first | apply Kd.R_alloc | apply Kd.R_drewN | apply Kd.R_drew)); exact Kd.R_mono HO854.out (fun _ hk => hk.2)⟩, ⟨by (with_reducible repeat (first | apply Kd.R_alloc | apply Kd.R_drewN | apply Kd.R_drew)); exact Kd.R_mono HO858.out (fun _ hk => hk.2)⟩, ⟨by (with_reducible repeat (first | apply Kd.V_alloc | apply Kd.V_drewN | apply Kd.V_drew)); exact Kd.V_mono HO845.out (fun _ hk => ⟨hk.1.2, ⟨hk.2, ⟨hk.1.1.1.2.2, hk.1.1.2⟩⟩⟩)⟩, ⟨by (with_reducible repeat (first | apply Kd.V_alloc | apply Kd.V_drewN | apply Kd.V_drew)); exact Kd.V_mono HO848.out (fun _ hk => ⟨hk.1.2, ⟨hk.2, ⟨hk.1.1.1.2.2, hk.1.1.2⟩⟩⟩)⟩, ⟨by first | (with_reducible exact BK818.out) | (with_reducible exact blk_drewN BK818.out _) | (with_reducible exact blk_drew BK818.out) | ((with_reducible repeat (first | refine blk_drewN ?_ _ | refine blk_drew ?_ | refine blk_alloc ?_ _)); exact BK818.out)⟩, ⟨by first | (with_reducible exact BK850.out) | (with_reducible exact blk_drewN BK850.out _) | (with_reducible exact blk_drew BK850.out) | ((with_reducible repeat (first | refine blk_drewN ?_ _ | refine blk_drew ?_ | refine blk_alloc ?_ _)); exact BK850.out)⟩, ⟨by repeat (first | (with_reducible first | exact HB.out | apply below_alloc | apply pw_below_drewN | apply below_drew1 | refine below_set ?_ GE818.out | refine below_set ?_ GE850.out) | exact HB.out)⟩⟩
                case rest =>
                  clear HC32
                  try clear c1
                  try clear c2
                  try clear p2
                  try clear q2
                  try clear hx2
                  try clear qi2
                  try clear hf2
                  try clear c3
                  try clear c3b0
                  try clear c3b1
                  try clear c4
                  try clear c4b0
                  try clear c4b1
                  try clear p4
                  try clear c5
                  try clear c18
                  try clear c18b0
                  try clear c18b1
                  try clear c19
                  try clear c19b0
                  try clear c19b1
                  try clear c22
                  try clear c23
                  try clear c25
                  try clear c25b0
                  try clear c25b1
                  try clear p26
                  try clear q26
                  try clear hx26
                  try clear qi26
                  try clear hf26
                  try clear c27
                  try clear c27b0
                  try clear c27b1
                  try clear p28
                  try clear q28
                  try clear hx28
                  try clear qi28
                  try clear hf28
                  try clear c30
                  try clear c38
                  try clear c41
                  try clear c47
                  try clear c47b0
                  try clear c48
                  try clear c48b0
                  try clear c48b1
                  try clear c49
                  try clear c52
                  try clear c54
                  try clear hcz13_0
                  try clear hcz13_1
                  try clear hcz13_10
                  try clear hcz13_2
                  try clear hcz13_3
                  try clear hcz13_4
                  try clear hcz13_5
                  try clear hcz13_6
                  try clear hcz13_7
                  try clear hcz13_8
                  try clear hcz13_9
                  try clear hcz16_0
                  try clear hcz16_1
                  try clear hcz16_10
                  try clear hcz16_2
                  try clear hcz16_3
                  try clear hcz16_4
                  try clear hcz16_5
                  try clear hcz16_6
                  try clear hcz16_7
                  try clear hcz16_8
                  try clear hcz16_9
                  try clear hcz42_0
                  try clear hcz42_1
                  try clear hcz42_10
                  try clear hcz42_2
                  try clear hcz42_3
                  try clear hcz42_4
                  try clear hcz42_5
                  try clear hcz42_6
                  try clear hcz42_7
                  try clear hcz42_8
                  try clear hcz42_9
                  try clear hcz50_0
                  try clear hcz50_1
                  try clear hcz50_10
                  try clear hcz50_2
                  try clear hcz50_3
                  try clear hcz50_4
                  try clear hcz50_5
                  try clear hcz50_6
                  try clear hcz50_7
                  try clear hcz50_8
                  try clear hcz50_9
                  try clear hcz53_0
                  try clear hcz53_1
                  try clear hcz53_10
                  try clear hcz53_2
                  try clear hcz53_3
                  try clear hcz53_4
                  try clear hcz53_5
                  try clear hcz53_6
                  try clear hcz53_7
                  try clear hcz53_8
                  try clear hcz53_9
                  try clear hcz55_0
                  try clear hcz55_1
                  try clear hcz55_10
                  try clear hcz55_2
                  try clear hcz55_3
                  try clear hcz55_4
                  try clear hcz55_5
                  try clear hcz55_6
                  try clear hcz55_7
                  try clear hcz55_8
                  try clear hcz55_9
                  try clear hcz6_0
                  try clear hcz6_1
                  try clear hcz6_10
                  try clear hcz6_2
                  try clear hcz6_3
                  try clear hcz6_4
                  try clear hcz6_5
                  try clear hcz6_6
                  try clear hcz6_7
                  try clear hcz6_8
                  try clear hcz6_9
                  try clear hfz13_0
                  try clear hfz13_1
                  try clear hfz13_10
                  try clear hfz13_2
                  try clear hfz13_3
                  try clear hfz13_4
                  try clear hfz13_5
                  try clear hfz13_6
                  try clear hfz13_7
                  try clear hfz13_8
                  try clear hfz13_9
                  try clear hfz16_0
                  try clear hfz16_1
                  try clear hfz16_10
                  try clear hfz16_2
                  try clear hfz16_3
                  try clear hfz16_4
                  try clear hfz16_5
                  try clear hfz16_6
                  try clear hfz16_7
                  try clear hfz16_8
                  try clear hfz16_9
                  try clear hfz42_0
                  try clear hfz42_1
                  try clear hfz42_10
                  try clear hfz42_2
                  try clear hfz42_3
                  try clear hfz42_4
                  try clear hfz42_5
                  try clear hfz42_6
                  try clear hfz42_7
                  try clear hfz42_8
                  try clear hfz42_9
                  try clear hfz50_0
                  try clear hfz50_1
                  try clear hfz50_10
                  try clear hfz50_2
                  try clear hfz50_3
                  try clear hfz50_4
                  try clear hfz50_5
                  try clear hfz50_6
                  try clear hfz50_7
                  try clear hfz50_8
                  try clear hfz50_9
                  try clear hfz53_0
                  try clear hfz53_1
                  try clear hfz53_10
                  try clear hfz53_2
                  try clear hfz53_3
                  try clear hfz53_4
                  try clear hfz53_5
                  try clear hfz53_6
                  try clear hfz53_7
                  try clear hfz53_8
                  try clear hfz53_9
                  try clear hfz55_0
                  try clear hfz55_1
                  try clear hfz55_10
                  try clear hfz55_2
                  try clear hfz55_3
                  try clear hfz55_4
                  try clear hfz55_5
                  try clear hfz55_6
                  try clear hfz55_7
                  try clear hfz55_8
                  try clear hfz55_9
                  try clear hfz6_0
                  try clear hfz6_1
                  try clear hfz6_10
                  try clear hfz6_2
                  try clear hfz6_3
                  try clear hfz6_4
                  try clear hfz6_5
                  try clear hfz6_6
                  try clear hfz6_7
                  try clear hfz6_8
                  try clear hfz6_9
                  try clear hx26_0
                  try clear hx28_0
                  try clear p2
                  try clear p26
                  try clear p28
                  try clear p4
                  try clear q26
                  try clear q28
                  obtain ⟨kq, x86_31, rfl, HA, HJ31, HO_10, HO_12, HO_851009, HO_851010, BK818, BK850, HB⟩ := hcut
                  cases kq with
                  | zero => exact absurd HA.out (by simp [weftlaw3_zeros.j1])
                  | succ kj31 =>
                    have H := HA.out
                    clear HA
                    simp only [weftlaw3_zeros.j1] at H
                    by_cases c56 : x86_31 = true
                    · subst c56
                      have H1 : (some false) = some r := by rw [if_pos rfl] at H; exact H
                      clear H
                      have H := H1
                      clear H1
                      obtain rfl := Option.some.inj H
                      go_wp2
                      go_ret
                      exact ⟨by first | rfl | (simp [errW_none, errW_some] <;> rfl) | (simp [*, errW_none, errW_some] <;> rfl), by repeat (first | (with_reducible first | exact HB.out | apply below_alloc | apply pw_below_drewN | apply below_drew1 | refine below_set ?_ GE818.out | refine below_set ?_ GE850.out) | exact HB.out)⟩
                    · replace c56 := Bool.eq_false_iff.mpr c56
                      subst c56
                      have H1 : (if t849 = 0 then ((weftlaw3_packets.f kj31 a0_0 (IntKind.u16.wrap (t823)) a0_2 a0_3 a0_4 a0_5 a0_6 a0_7 a0_8 l0_9 l0_10 t834 t835 t836 t837 t838 t839 t840 t841 t842 t843 t846).bind fun t859 => (if t859 = true then (if t852 = t856 then ((weftlaw3_same.f kj31 t851 t855).bind fun t860 => (some t860)) else (some false)) else (some false))) else (some false)) = some r := by rw [if_neg (show ¬ (false = true) by decide)] at H; exact H
                      clear H
                      have H := H1
                      clear H1
                      by_cases c57 : t849 = 0
                      · rw [if_pos c57] at H
                        have c57b0 : (t849 == 0) = true := beq_iff_eq.mpr c57
                        have c57b1 : (t849 != 0) = false := bne_eq_false_iff_eq.mpr c57
                        clear c57
                        replace H := Option.bind_eq_some_iff.mp H
                        obtain ⟨t859, A580, H⟩ := H
                        replace H : (if t859 = true then (if t852 = t856 then ((weftlaw3_same.f kj31 t851 t855).bind fun t860 => (some t860)) else (some false)) else (some false)) = some r := H
                        have A58 := Aside0.mk A580
                        clear A580
                        by_cases c59 : t859 = true
                        · subst c59
                          have H1 : (if t852 = t856 then ((weftlaw3_same.f kj31 t851 t855).bind fun t860 => (some t860)) else (some false)) = some r := by rw [if_pos rfl] at H; exact H
                          clear H
                          have H := H1
                          clear H1
                          by_cases c60 : t852 = t856
                          · rw [if_pos c60] at H
                            have c60b0 : (t852 == t856) = true := beq_iff_eq.mpr c60
                            have c60b1 : (t852 != t856) = false := bne_eq_false_iff_eq.mpr c60
                            clear c60
                            replace H := Option.bind_eq_some_iff.mp H
                            obtain ⟨t860, A610, H⟩ := H
                            replace H : (some t860) = some r := H
                            have A61 := Aside0.mk A610
                            clear A610
                            obtain rfl := Option.some.inj H
                            have hnb62 := NB818_850.out
                            have hnc62 := NB850_818.out
                            have hcz63_0 : wc.cell? ⟨gb818, 0, none⟩ = some (.int .u8 a0_0) := (blk_cell BK818.out 0).trans rfl
                            have hcz63_1 : wc.cell? ⟨gb818, 1, none⟩ = some (.int .u16 (IntKind.u16.wrap (t823))) := (blk_cell BK818.out 1).trans rfl
                            have hcz63_2 : wc.cell? ⟨gb818, 2, none⟩ = some (.bool a0_2) := (blk_cell BK818.out 2).trans rfl
                            have hcz63_3 : wc.cell? ⟨gb818, 3, none⟩ = some (.bool a0_3) := (blk_cell BK818.out 3).trans rfl
                            have hcz63_4 : wc.cell? ⟨gb818, 4, none⟩ = some (.int .i64 a0_4) := (blk_cell BK818.out 4).trans rfl
                            have hcz63_5 : wc.cell? ⟨gb818, 5, none⟩ = some (.int .u8 a0_5) := (blk_cell BK818.out 5).trans rfl
                            have hcz63_6 : wc.cell? ⟨gb818, 6, none⟩ = some (.int .u8 a0_6) := (blk_cell BK818.out 6).trans rfl
                            have hcz63_7 : wc.cell? ⟨gb818, 7, none⟩ = some (.int .u32 a0_7) := (blk_cell BK818.out 7).trans rfl
                            have hcz63_8 : wc.cell? ⟨gb818, 8, none⟩ = some (.int .u32 a0_8) := (blk_cell BK818.out 8).trans rfl
                            have hcz63_9 : wc.cell? ⟨gb818, 9, none⟩ = some (.slice A0_9 l0_9.length c0_9) := (blk_cell BK818.out 9).trans rfl
                            have hcz63_10 : wc.cell? ⟨gb818, 10, none⟩ = some (.slice A0_10 l0_10.length c0_10) := (blk_cell BK818.out 10).trans rfl
                            have hfz63_0 := blk_frozen BK818.out 0
                            have hfz63_1 := blk_frozen BK818.out 1
                            have hfz63_2 := blk_frozen BK818.out 2
                            have hfz63_3 := blk_frozen BK818.out 3
                            have hfz63_4 := blk_frozen BK818.out 4
                            have hfz63_5 := blk_frozen BK818.out 5
                            have hfz63_6 := blk_frozen BK818.out 6
                            have hfz63_7 := blk_frozen BK818.out 7
                            have hfz63_8 := blk_frozen BK818.out 8
                            have hfz63_9 := blk_frozen BK818.out 9
                            have hfz63_10 := blk_frozen BK818.out 10
                            have hcz64_0 : wc.cell? ⟨gb850, 0, none⟩ = some (.int .u8 t834) := (blk_cell BK850.out 0).trans rfl
                            have hcz64_1 : wc.cell? ⟨gb850, 1, none⟩ = some (.int .u16 t835) := (blk_cell BK850.out 1).trans rfl
                            have hcz64_2 : wc.cell? ⟨gb850, 2, none⟩ = some (.bool t836) := (blk_cell BK850.out 2).trans rfl
                            have hcz64_3 : wc.cell? ⟨gb850, 3, none⟩ = some (.bool t837) := (blk_cell BK850.out 3).trans rfl
                            have hcz64_4 : wc.cell? ⟨gb850, 4, none⟩ = some (.int .i64 t838) := (blk_cell BK850.out 4).trans rfl
                            have hcz64_5 : wc.cell? ⟨gb850, 5, none⟩ = some (.int .u8 t839) := (blk_cell BK850.out 5).trans rfl
                            have hcz64_6 : wc.cell? ⟨gb850, 6, none⟩ = some (.int .u8 t840) := (blk_cell BK850.out 6).trans rfl
                            have hcz64_7 : wc.cell? ⟨gb850, 7, none⟩ = some (.int .u32 t841) := (blk_cell BK850.out 7).trans rfl
                            have hcz64_8 : wc.cell? ⟨gb850, 8, none⟩ = some (.int .u32 t842) := (blk_cell BK850.out 8).trans rfl
                            have hcz64_9 : wc.cell? ⟨gb850, 9, none⟩ = some (.slice Ao43 t843.length co43) := (blk_cell BK850.out 9).trans rfl
                            have hcz64_10 : wc.cell? ⟨gb850, 10, none⟩ = some (.slice Ao44 t846.length co44) := (blk_cell BK850.out 10).trans rfl
                            have hfz64_0 := blk_frozen BK850.out 0
                            have hfz64_1 := blk_frozen BK850.out 1
                            have hfz64_2 := blk_frozen BK850.out 2
                            have hfz64_3 := blk_frozen BK850.out 3
                            have hfz64_4 := blk_frozen BK850.out 4
                            have hfz64_5 := blk_frozen BK850.out 5
                            have hfz64_6 := blk_frozen BK850.out 6
                            have hfz64_7 := blk_frozen BK850.out 7
                            have hfz64_8 := blk_frozen BK850.out 8
                            have hfz64_9 := blk_frozen BK850.out 9
                            have hfz64_10 := blk_frozen BK850.out 10
                            go_wp2_with (first | (go_at_call 39; (with_reducible refine (weftlaw3_packets.calls kj31 a0_0 (IntKind.u16.wrap (t823)) a0_2 a0_3 a0_4 a0_5 a0_6 a0_7 a0_8 _ _ l0_9 _ _ l0_10 t834 t835 t836 t837 t838 t839 t840 t841 t842 _ _ t843 _ _ t846 true _ ?side1 ?side2 ?side3 ?side4 ?side5 ?side6 ?side7 ?side8 A58.out).mono ?_); (case side1 => repeat (first | exact (Kd.C_below HR0_9.out HB.out) | (with_reducible refine Kd.C_alloc ?_ _) | (with_reducible refine Kd.C_drewN ?_ _) | (with_reducible refine Kd.C_drew ?_))); (case side2 => exact HC0_9.out); (case side3 => repeat (first | exact (Kd.C_below HR0_10.out HB.out) | (with_reducible refine Kd.C_alloc ?_ _) | (with_reducible refine Kd.C_drewN ?_ _) | (with_reducible refine Kd.C_drew ?_))); (case side4 => exact HC0_10.out); (case side5 => repeat (first | exact (Kd.V_reads' HO_851009.out).2.2 | (with_reducible refine Kd.C_alloc ?_ _) | (with_reducible refine Kd.C_drewN ?_ _) | (with_reducible refine Kd.C_drew ?_))); (case side6 => exact (Kd.V_reads' HO_851009.out).2.1); (case side7 => repeat (first | exact (Kd.V_reads' HO_851010.out).2.2 | (with_reducible refine Kd.C_alloc ?_ _) | (with_reducible refine Kd.C_drewN ?_ _) | (with_reducible refine Kd.C_drew ?_))); (case side8 => exact (Kd.V_reads' HO_851010.out).2.1); rintro e w65 ⟨rfl, hb⟩; have n0_ := Aside0.mk (Kd.R_below (by (with_reducible repeat (first | apply Kd.R_alloc | apply Kd.R_drewN | apply Kd.R_drew)); exact HO_10.out) hb); have n1_ := Aside0.mk (Kd.R_below (by (with_reducible repeat (first | apply Kd.R_alloc | apply Kd.R_drewN | apply Kd.R_drew)); exact HO_12.out) hb); have n2_ := Aside0.mk (Kd.V_below (by (with_reducible repeat (first | apply Kd.V_alloc | apply Kd.V_drewN | apply Kd.V_drew)); exact HO_851009.out) hb); have n3_ := Aside0.mk (Kd.V_below (by (with_reducible repeat (first | apply Kd.V_alloc | apply Kd.V_drewN | apply Kd.V_drew)); exact HO_851010.out) hb); have n4_ := Aside0.mk (blk_below (g := gb818) (o := .cells #[.int .u8 a0_0, .int .u16 (IntKind.u16.wrap (t823)), .bool a0_2, .bool a0_3, .int .i64 a0_4, .int .u8 a0_5, .int .u8 a0_6, .int .u32 a0_7, .int .u32 a0_8, .slice A0_9 l0_9.length c0_9, .slice A0_10 l0_10.length c0_10] 43 (0, 0)) zq16_1 hb); have n5_ := Aside0.mk (blk_below (g := gb850) (o := .cells #[.int .u8 t834, .int .u16 t835, .bool t836, .bool t837, .int .i64 t838, .int .u8 t839, .int .u8 t840, .int .u32 t841, .int .u32 t842, .slice Ao43 t843.length co43, .slice Ao44 t846.length co44] 43 (0, 0)) zq16_9 hb); have n6_ := Aside0.mk (below_step zq16_4 hb); clear HO_10; clear HO_12; clear HO_851009; clear HO_851010; clear BK818; clear BK850; clear HB; have HO_10 := n0_; have HO_12 := n1_; have HO_851009 := n2_; have HO_851010 := n3_; have BK818 := n4_; have BK850 := n5_; have HB := n6_; clear n0_ n1_ n2_ n3_ n4_ n5_ n6_; (try clear hb); (try clear hb2); (try clear hk); (try clear hi); obtain ⟨Ao66, co66, eo66⟩ := Kd.R_slice HO_10.out; subst eo66; obtain ⟨Ao67, co67, eo67⟩ := Kd.R_slice HO_12.out; subst eo67) | (go_at_call 21; (with_reducible refine (weftlaw3_same.calls kj31 _ _ t851 _ _ t855 t860 _ ?side1 ?side2 ?side3 ?side4 A61.out).mono ?_); (case side1 => repeat (first | exact (Kd.R_reads' HO_10.out).2.2 | (with_reducible refine Kd.C_alloc ?_ _) | (with_reducible refine Kd.C_drewN ?_ _) | (with_reducible refine Kd.C_drew ?_))); (case side2 => exact (Kd.R_reads' HO_10.out).2.1); (case side3 => repeat (first | exact (Kd.R_reads' HO_12.out).2.2 | (with_reducible refine Kd.C_alloc ?_ _) | (with_reducible refine Kd.C_drewN ?_ _) | (with_reducible refine Kd.C_drew ?_))); (case side4 => exact (Kd.R_reads' HO_12.out).2.1); rintro e w' ⟨rfl, ⟨nd, rfl⟩⟩))
                            go_ret
                            exact ⟨by first | rfl | (simp [errW_none, errW_some] <;> rfl) | (simp [*, errW_none, errW_some] <;> rfl), by repeat (first | (with_reducible first | exact HB.out | apply below_alloc | apply pw_below_drewN | apply below_drew1 | refine below_set ?_ GE818.out | refine below_set ?_ GE850.out) | exact HB.out)⟩
                          · rw [if_neg c60] at H
                            have c60b0 : (t852 == t856) = false := beq_eq_false_iff_ne.mpr c60
                            have c60b1 : (t852 != t856) = true := bne_iff_ne.mpr c60
                            obtain rfl := Option.some.inj H
                            have hnb68 := NB818_850.out
                            have hnc68 := NB850_818.out
                            have hcz69_0 : wc.cell? ⟨gb818, 0, none⟩ = some (.int .u8 a0_0) := (blk_cell BK818.out 0).trans rfl
                            have hcz69_1 : wc.cell? ⟨gb818, 1, none⟩ = some (.int .u16 (IntKind.u16.wrap (t823))) := (blk_cell BK818.out 1).trans rfl
                            have hcz69_2 : wc.cell? ⟨gb818, 2, none⟩ = some (.bool a0_2) := (blk_cell BK818.out 2).trans rfl
                            have hcz69_3 : wc.cell? ⟨gb818, 3, none⟩ = some (.bool a0_3) := (blk_cell BK818.out 3).trans rfl
                            have hcz69_4 : wc.cell? ⟨gb818, 4, none⟩ = some (.int .i64 a0_4) := (blk_cell BK818.out 4).trans rfl
                            have hcz69_5 : wc.cell? ⟨gb818, 5, none⟩ = some (.int .u8 a0_5) := (blk_cell BK818.out 5).trans rfl
                            have hcz69_6 : wc.cell? ⟨gb818, 6, none⟩ = some (.int .u8 a0_6) := (blk_cell BK818.out 6).trans rfl
                            have hcz69_7 : wc.cell? ⟨gb818, 7, none⟩ = some (.int .u32 a0_7) := (blk_cell BK818.out 7).trans rfl
                            have hcz69_8 : wc.cell? ⟨gb818, 8, none⟩ = some (.int .u32 a0_8) := (blk_cell BK818.out 8).trans rfl
                            have hcz69_9 : wc.cell? ⟨gb818, 9, none⟩ = some (.slice A0_9 l0_9.length c0_9) := (blk_cell BK818.out 9).trans rfl
                            have hcz69_10 : wc.cell? ⟨gb818, 10, none⟩ = some (.slice A0_10 l0_10.length c0_10) := (blk_cell BK818.out 10).trans rfl
                            have hfz69_0 := blk_frozen BK818.out 0
                            have hfz69_1 := blk_frozen BK818.out 1
                            have hfz69_2 := blk_frozen BK818.out 2
                            have hfz69_3 := blk_frozen BK818.out 3
                            have hfz69_4 := blk_frozen BK818.out 4
                            have hfz69_5 := blk_frozen BK818.out 5
                            have hfz69_6 := blk_frozen BK818.out 6
                            have hfz69_7 := blk_frozen BK818.out 7
                            have hfz69_8 := blk_frozen BK818.out 8
                            have hfz69_9 := blk_frozen BK818.out 9
                            have hfz69_10 := blk_frozen BK818.out 10
                            have hcz70_0 : wc.cell? ⟨gb850, 0, none⟩ = some (.int .u8 t834) := (blk_cell BK850.out 0).trans rfl
                            have hcz70_1 : wc.cell? ⟨gb850, 1, none⟩ = some (.int .u16 t835) := (blk_cell BK850.out 1).trans rfl
                            have hcz70_2 : wc.cell? ⟨gb850, 2, none⟩ = some (.bool t836) := (blk_cell BK850.out 2).trans rfl
                            have hcz70_3 : wc.cell? ⟨gb850, 3, none⟩ = some (.bool t837) := (blk_cell BK850.out 3).trans rfl
                            have hcz70_4 : wc.cell? ⟨gb850, 4, none⟩ = some (.int .i64 t838) := (blk_cell BK850.out 4).trans rfl
                            have hcz70_5 : wc.cell? ⟨gb850, 5, none⟩ = some (.int .u8 t839) := (blk_cell BK850.out 5).trans rfl
                            have hcz70_6 : wc.cell? ⟨gb850, 6, none⟩ = some (.int .u8 t840) := (blk_cell BK850.out 6).trans rfl
                            have hcz70_7 : wc.cell? ⟨gb850, 7, none⟩ = some (.int .u32 t841) := (blk_cell BK850.out 7).trans rfl
                            have hcz70_8 : wc.cell? ⟨gb850, 8, none⟩ = some (.int .u32 t842) := (blk_cell BK850.out 8).trans rfl
                            have hcz70_9 : wc.cell? ⟨gb850, 9, none⟩ = some (.slice Ao43 t843.length co43) := (blk_cell BK850.out 9).trans rfl
                            have hcz70_10 : wc.cell? ⟨gb850, 10, none⟩ = some (.slice Ao44 t846.length co44) := (blk_cell BK850.out 10).trans rfl
                            have hfz70_0 := blk_frozen BK850.out 0
                            have hfz70_1 := blk_frozen BK850.out 1
                            have hfz70_2 := blk_frozen BK850.out 2
                            have hfz70_3 := blk_frozen BK850.out 3
                            have hfz70_4 := blk_frozen BK850.out 4
                            have hfz70_5 := blk_frozen BK850.out 5
                            have hfz70_6 := blk_frozen BK850.out 6
                            have hfz70_7 := blk_frozen BK850.out 7
                            have hfz70_8 := blk_frozen BK850.out 8
                            have hfz70_9 := blk_frozen BK850.out 9
                            have hfz70_10 := blk_frozen BK850.out 10
                            go_wp2_with (first | (go_at_call 39; (with_reducible refine (weftlaw3_packets.calls kj31 a0_0 (IntKind.u16.wrap (t823)) a0_2 a0_3 a0_4 a0_5 a0_6 a0_7 a0_8 _ _ l0_9 _ _ l0_10 t834 t835 t836 t837 t838 t839 t840 t841 t842 _ _ t843 _ _ t846 true _ ?side1 ?side2 ?side3 ?side4 ?side5 ?side6 ?side7 ?side8 A58.out).mono ?_); (case side1 => repeat (first | exact (Kd.C_below HR0_9.out HB.out) | (with_reducible refine Kd.C_alloc ?_ _) | (with_reducible refine Kd.C_drewN ?_ _) | (with_reducible refine Kd.C_drew ?_))); (case side2 => exact HC0_9.out); (case side3 => repeat (first | exact (Kd.C_below HR0_10.out HB.out) | (with_reducible refine Kd.C_alloc ?_ _) | (with_reducible refine Kd.C_drewN ?_ _) | (with_reducible refine Kd.C_drew ?_))); (case side4 => exact HC0_10.out); (case side5 => repeat (first | exact (Kd.V_reads' HO_851009.out).2.2 | (with_reducible refine Kd.C_alloc ?_ _) | (with_reducible refine Kd.C_drewN ?_ _) | (with_reducible refine Kd.C_drew ?_))); (case side6 => exact (Kd.V_reads' HO_851009.out).2.1); (case side7 => repeat (first | exact (Kd.V_reads' HO_851010.out).2.2 | (with_reducible refine Kd.C_alloc ?_ _) | (with_reducible refine Kd.C_drewN ?_ _) | (with_reducible refine Kd.C_drew ?_))); (case side8 => exact (Kd.V_reads' HO_851010.out).2.1); rintro e w71 ⟨rfl, hb⟩; have n0_ := Aside0.mk (Kd.R_below (by (with_reducible repeat (first | apply Kd.R_alloc | apply Kd.R_drewN | apply Kd.R_drew)); exact HO_10.out) hb); have n1_ := Aside0.mk (Kd.R_below (by (with_reducible repeat (first | apply Kd.R_alloc | apply Kd.R_drewN | apply Kd.R_drew)); exact HO_12.out) hb); have n2_ := Aside0.mk (Kd.V_below (by (with_reducible repeat (first | apply Kd.V_alloc | apply Kd.V_drewN | apply Kd.V_drew)); exact HO_851009.out) hb); have n3_ := Aside0.mk (Kd.V_below (by (with_reducible repeat (first | apply Kd.V_alloc | apply Kd.V_drewN | apply Kd.V_drew)); exact HO_851010.out) hb); have n4_ := Aside0.mk (blk_below (g := gb818) (o := .cells #[.int .u8 a0_0, .int .u16 (IntKind.u16.wrap (t823)), .bool a0_2, .bool a0_3, .int .i64 a0_4, .int .u8 a0_5, .int .u8 a0_6, .int .u32 a0_7, .int .u32 a0_8, .slice A0_9 l0_9.length c0_9, .slice A0_10 l0_10.length c0_10] 43 (0, 0)) zq16_1 hb); have n5_ := Aside0.mk (blk_below (g := gb850) (o := .cells #[.int .u8 t834, .int .u16 t835, .bool t836, .bool t837, .int .i64 t838, .int .u8 t839, .int .u8 t840, .int .u32 t841, .int .u32 t842, .slice Ao43 t843.length co43, .slice Ao44 t846.length co44] 43 (0, 0)) zq16_9 hb); have n6_ := Aside0.mk (below_step zq16_4 hb); clear HO_10; clear HO_12; clear HO_851009; clear HO_851010; clear BK818; clear BK850; clear HB; have HO_10 := n0_; have HO_12 := n1_; have HO_851009 := n2_; have HO_851010 := n3_; have BK818 := n4_; have BK850 := n5_; have HB := n6_; clear n0_ n1_ n2_ n3_ n4_ n5_ n6_; (try clear hb); (try clear hb2); (try clear hk); (try clear hi)))
                            go_ret
                            exact ⟨by first | rfl | (simp [errW_none, errW_some] <;> rfl) | (simp [*, errW_none, errW_some] <;> rfl), by repeat (first | (with_reducible first | exact HB.out | apply below_alloc | apply pw_below_drewN | apply below_drew1 | refine below_set ?_ GE818.out | refine below_set ?_ GE850.out) | exact HB.out)⟩
                        · replace c59 := Bool.eq_false_iff.mpr c59
                          subst c59
                          have H1 : (some false) = some r := by rw [if_neg (show ¬ (false = true) by decide)] at H; exact H
                          clear H
                          have H := H1
                          clear H1
                          obtain rfl := Option.some.inj H
                          have hnb72 := NB818_850.out
                          have hnc72 := NB850_818.out
                          have hcz73_0 : wc.cell? ⟨gb818, 0, none⟩ = some (.int .u8 a0_0) := (blk_cell BK818.out 0).trans rfl
                          have hcz73_1 : wc.cell? ⟨gb818, 1, none⟩ = some (.int .u16 (IntKind.u16.wrap (t823))) := (blk_cell BK818.out 1).trans rfl
                          have hcz73_2 : wc.cell? ⟨gb818, 2, none⟩ = some (.bool a0_2) := (blk_cell BK818.out 2).trans rfl
                          have hcz73_3 : wc.cell? ⟨gb818, 3, none⟩ = some (.bool a0_3) := (blk_cell BK818.out 3).trans rfl
                          have hcz73_4 : wc.cell? ⟨gb818, 4, none⟩ = some (.int .i64 a0_4) := (blk_cell BK818.out 4).trans rfl
                          have hcz73_5 : wc.cell? ⟨gb818, 5, none⟩ = some (.int .u8 a0_5) := (blk_cell BK818.out 5).trans rfl
                          have hcz73_6 : wc.cell? ⟨gb818, 6, none⟩ = some (.int .u8 a0_6) := (blk_cell BK818.out 6).trans rfl
                          have hcz73_7 : wc.cell? ⟨gb818, 7, none⟩ = some (.int .u32 a0_7) := (blk_cell BK818.out 7).trans rfl
                          have hcz73_8 : wc.cell? ⟨gb818, 8, none⟩ = some (.int .u32 a0_8) := (blk_cell BK818.out 8).trans rfl
                          have hcz73_9 : wc.cell? ⟨gb818, 9, none⟩ = some (.slice A0_9 l0_9.length c0_9) := (blk_cell BK818.out 9).trans rfl
                          have hcz73_10 : wc.cell? ⟨gb818, 10, none⟩ = some (.slice A0_10 l0_10.length c0_10) := (blk_cell BK818.out 10).trans rfl
                          have hfz73_0 := blk_frozen BK818.out 0
                          have hfz73_1 := blk_frozen BK818.out 1
                          have hfz73_2 := blk_frozen BK818.out 2
                          have hfz73_3 := blk_frozen BK818.out 3
                          have hfz73_4 := blk_frozen BK818.out 4
                          have hfz73_5 := blk_frozen BK818.out 5
                          have hfz73_6 := blk_frozen BK818.out 6
                          have hfz73_7 := blk_frozen BK818.out 7
                          have hfz73_8 := blk_frozen BK818.out 8
                          have hfz73_9 := blk_frozen BK818.out 9
                          have hfz73_10 := blk_frozen BK818.out 10
                          have hcz74_0 : wc.cell? ⟨gb850, 0, none⟩ = some (.int .u8 t834) := (blk_cell BK850.out 0).trans rfl
                          have hcz74_1 : wc.cell? ⟨gb850, 1, none⟩ = some (.int .u16 t835) := (blk_cell BK850.out 1).trans rfl
                          have hcz74_2 : wc.cell? ⟨gb850, 2, none⟩ = some (.bool t836) := (blk_cell BK850.out 2).trans rfl
                          have hcz74_3 : wc.cell? ⟨gb850, 3, none⟩ = some (.bool t837) := (blk_cell BK850.out 3).trans rfl
                          have hcz74_4 : wc.cell? ⟨gb850, 4, none⟩ = some (.int .i64 t838) := (blk_cell BK850.out 4).trans rfl
                          have hcz74_5 : wc.cell? ⟨gb850, 5, none⟩ = some (.int .u8 t839) := (blk_cell BK850.out 5).trans rfl
                          have hcz74_6 : wc.cell? ⟨gb850, 6, none⟩ = some (.int .u8 t840) := (blk_cell BK850.out 6).trans rfl
                          have hcz74_7 : wc.cell? ⟨gb850, 7, none⟩ = some (.int .u32 t841) := (blk_cell BK850.out 7).trans rfl
                          have hcz74_8 : wc.cell? ⟨gb850, 8, none⟩ = some (.int .u32 t842) := (blk_cell BK850.out 8).trans rfl
                          have hcz74_9 : wc.cell? ⟨gb850, 9, none⟩ = some (.slice Ao43 t843.length co43) := (blk_cell BK850.out 9).trans rfl
                          have hcz74_10 : wc.cell? ⟨gb850, 10, none⟩ = some (.slice Ao44 t846.length co44) := (blk_cell BK850.out 10).trans rfl
                          have hfz74_0 := blk_frozen BK850.out 0
                          have hfz74_1 := blk_frozen BK850.out 1
                          have hfz74_2 := blk_frozen BK850.out 2
                          have hfz74_3 := blk_frozen BK850.out 3
                          have hfz74_4 := blk_frozen BK850.out 4
                          have hfz74_5 := blk_frozen BK850.out 5
                          have hfz74_6 := blk_frozen BK850.out 6
                          have hfz74_7 := blk_frozen BK850.out 7
                          have hfz74_8 := blk_frozen BK850.out 8
                          have hfz74_9 := blk_frozen BK850.out 9
                          have hfz74_10 := blk_frozen BK850.out 10
                          go_wp2_with (first | (go_at_call 39; (with_reducible refine (weftlaw3_packets.calls kj31 a0_0 (IntKind.u16.wrap (t823)) a0_2 a0_3 a0_4 a0_5 a0_6 a0_7 a0_8 _ _ l0_9 _ _ l0_10 t834 t835 t836 t837 t838 t839 t840 t841 t842 _ _ t843 _ _ t846 false _ ?side1 ?side2 ?side3 ?side4 ?side5 ?side6 ?side7 ?side8 A58.out).mono ?_); (case side1 => repeat (first | exact (Kd.C_below HR0_9.out HB.out) | (with_reducible refine Kd.C_alloc ?_ _) | (with_reducible refine Kd.C_drewN ?_ _) | (with_reducible refine Kd.C_drew ?_))); (case side2 => exact HC0_9.out); (case side3 => repeat (first | exact (Kd.C_below HR0_10.out HB.out) | (with_reducible refine Kd.C_alloc ?_ _) | (with_reducible refine Kd.C_drewN ?_ _) | (with_reducible refine Kd.C_drew ?_))); (case side4 => exact HC0_10.out); (case side5 => repeat (first | exact (Kd.V_reads' HO_851009.out).2.2 | (with_reducible refine Kd.C_alloc ?_ _) | (with_reducible refine Kd.C_drewN ?_ _) | (with_reducible refine Kd.C_drew ?_))); (case side6 => exact (Kd.V_reads' HO_851009.out).2.1); (case side7 => repeat (first | exact (Kd.V_reads' HO_851010.out).2.2 | (with_reducible refine Kd.C_alloc ?_ _) | (with_reducible refine Kd.C_drewN ?_ _) | (with_reducible refine Kd.C_drew ?_))); (case side8 => exact (Kd.V_reads' HO_851010.out).2.1); rintro e w75 ⟨rfl, hb⟩; have n0_ := Aside0.mk (Kd.R_below (by (with_reducible repeat (first | apply Kd.R_alloc | apply Kd.R_drewN | apply Kd.R_drew)); exact HO_10.out) hb); have n1_ := Aside0.mk (Kd.R_below (by (with_reducible repeat (first | apply Kd.R_alloc | apply Kd.R_drewN | apply Kd.R_drew)); exact HO_12.out) hb); have n2_ := Aside0.mk (Kd.V_below (by (with_reducible repeat (first | apply Kd.V_alloc | apply Kd.V_drewN | apply Kd.V_drew)); exact HO_851009.out) hb); have n3_ := Aside0.mk (Kd.V_below (by (with_reducible repeat (first | apply Kd.V_alloc | apply Kd.V_drewN | apply Kd.V_drew)); exact HO_851010.out) hb); have n4_ := Aside0.mk (blk_below (g := gb818) (o := .cells #[.int .u8 a0_0, .int .u16 (IntKind.u16.wrap (t823)), .bool a0_2, .bool a0_3, .int .i64 a0_4, .int .u8 a0_5, .int .u8 a0_6, .int .u32 a0_7, .int .u32 a0_8, .slice A0_9 l0_9.length c0_9, .slice A0_10 l0_10.length c0_10] 43 (0, 0)) zq16_1 hb); have n5_ := Aside0.mk (blk_below (g := gb850) (o := .cells #[.int .u8 t834, .int .u16 t835, .bool t836, .bool t837, .int .i64 t838, .int .u8 t839, .int .u8 t840, .int .u32 t841, .int .u32 t842, .slice Ao43 t843.length co43, .slice Ao44 t846.length co44] 43 (0, 0)) zq16_9 hb); have n6_ := Aside0.mk (below_step zq16_4 hb); clear HO_10; clear HO_12; clear HO_851009; clear HO_851010; clear BK818; clear BK850; clear HB; have HO_10 := n0_; have HO_12 := n1_; have HO_851009 := n2_; have HO_851010 := n3_; have BK818 := n4_; have BK850 := n5_; have HB := n6_; clear n0_ n1_ n2_ n3_ n4_ n5_ n6_; (try clear hb); (try clear hb2); (try clear hk); (try clear hi)))
                          go_ret
                          exact ⟨by first | rfl | (simp [errW_none, errW_some] <;> rfl) | (simp [*, errW_none, errW_some] <;> rfl), by repeat (first | (with_reducible first | exact HB.out | apply below_alloc | apply pw_below_drewN | apply below_drew1 | refine below_set ?_ GE818.out | refine below_set ?_ GE850.out) | exact HB.out)⟩
                      · rw [if_neg c57] at H
                        have c57b0 : (t849 == 0) = false := beq_eq_false_iff_ne.mpr c57
                        have c57b1 : (t849 != 0) = true := bne_iff_ne.mpr c57
                        obtain rfl := Option.some.inj H
                        go_wp2
                        go_ret
                        exact ⟨by first | rfl | (simp [errW_none, errW_some] <;> rfl) | (simp [*, errW_none, errW_some] <;> rfl), by repeat (first | (with_reducible first | exact HB.out | apply below_alloc | apply pw_below_drewN | apply below_drew1 | refine below_set ?_ GE818.out | refine below_set ?_ GE850.out) | exact HB.out)⟩
              · rw [if_neg c27] at H
                exact absurd H (by simp)
            · rw [if_neg c25] at H
              exact absurd H (by simp)
  · rw [if_neg c3] at H
    have c3b0 : (t822 == 0) = false := beq_eq_false_iff_ne.mpr c3
    have c3b1 : (t822 != 0) = true := bne_iff_ne.mpr c3
    obtain rfl := Option.some.inj H
    go_enter Try.func30, Try.ntmps30
    go_wp2_with (first | ((with_reducible refine gate_dst (N := 1) rfl ?_); (try (refine gate_guard (by rfl) ?_; dsimp only)); refine box_event ?hg (N := 1) ?hd (cs := #[.int .u8 a0_0, .int .u16 a0_1, .bool a0_2, .bool a0_3, .int .i64 a0_4, .int .u8 a0_5, .int .u8 a0_6, .int .u32 a0_7, .int .u32 a0_8, .slice A0_9 l0_9.length c0_9, .slice A0_10 l0_10.length c0_10]) (t := 43) ?hr ?_; (case hd => rfl); (case hg => rfl); (case hr => first | (go_simp; done) | (go_simp; rfl)); intro gb818 hg w76 hbox hb; have n0_ := Aside0.mk (below_step zq16_5 hb); have n1_ := Aside0.mk (hbox); have n2_ := Aside0.mk ((by rw [hg]; exact (below_size zq16_5) : w.heap.size ≤ gb818)); have n3_ := Aside0.mk ((by rw [hg]; exact (below_size zq16_5) : w.heap.size ≤ gb818)); clear HB; have HB := n0_; have BK818 := n1_; have GW818 := n2_; have GE818 := n3_; clear n0_ n1_ n2_ n3_; clear hb hbox hg; have hcz77_0 : w76.cell? ⟨gb818, 0, none⟩ = some (.int .u8 a0_0) := (blk_cell BK818.out 0).trans rfl; have hcz77_1 : w76.cell? ⟨gb818, 1, none⟩ = some (.int .u16 a0_1) := (blk_cell BK818.out 1).trans rfl; have hcz77_2 : w76.cell? ⟨gb818, 2, none⟩ = some (.bool a0_2) := (blk_cell BK818.out 2).trans rfl; have hcz77_3 : w76.cell? ⟨gb818, 3, none⟩ = some (.bool a0_3) := (blk_cell BK818.out 3).trans rfl; have hcz77_4 : w76.cell? ⟨gb818, 4, none⟩ = some (.int .i64 a0_4) := (blk_cell BK818.out 4).trans rfl; have hcz77_5 : w76.cell? ⟨gb818, 5, none⟩ = some (.int .u8 a0_5) := (blk_cell BK818.out 5).trans rfl; have hcz77_6 : w76.cell? ⟨gb818, 6, none⟩ = some (.int .u8 a0_6) := (blk_cell BK818.out 6).trans rfl; have hcz77_7 : w76.cell? ⟨gb818, 7, none⟩ = some (.int .u32 a0_7) := (blk_cell BK818.out 7).trans rfl; have hcz77_8 : w76.cell? ⟨gb818, 8, none⟩ = some (.int .u32 a0_8) := (blk_cell BK818.out 8).trans rfl; have hcz77_9 : w76.cell? ⟨gb818, 9, none⟩ = some (.slice A0_9 l0_9.length c0_9) := (blk_cell BK818.out 9).trans rfl; have hcz77_10 : w76.cell? ⟨gb818, 10, none⟩ = some (.slice A0_10 l0_10.length c0_10) := (blk_cell BK818.out 10).trans rfl; have hfz77_0 := blk_frozen BK818.out 0; have hfz77_1 := blk_frozen BK818.out 1; have hfz77_2 := blk_frozen BK818.out 2; have hfz77_3 := blk_frozen BK818.out 3; have hfz77_4 := blk_frozen BK818.out 4; have hfz77_5 := blk_frozen BK818.out 5; have hfz77_6 := blk_frozen BK818.out 6; have hfz77_7 := blk_frozen BK818.out 7; have hfz77_8 := blk_frozen BK818.out 8; have hfz77_9 := blk_frozen BK818.out 9; have hfz77_10 := blk_frozen BK818.out 10) | ((with_reducible refine gate_callee (f := 22) rfl ?_); refine goesL_ (some 18) rfl rfl Try.func22 (by kernel_rfl) rfl #[.agg #[.int .u8 a0_0, .int .u16 0, .bool a0_2, .bool a0_3, .int .i64 a0_4, .int .u8 a0_5, .int .u8 a0_6, .int .u32 a0_7, .int .u32 a0_8, .slice A0_9 l0_9.length c0_9, .slice A0_10 l0_10.length c0_10]] rfl zq16_8 ?_; (with_reducible refine (ip4_Build.calls k a0_0 0 a0_2 a0_3 a0_4 a0_5 a0_6 a0_7 a0_8 _ _ l0_9 _ _ l0_10 t819 t822 _ ?side1 ?side2 ?side3 ?side4 A2.out).mono ?_); (case side1 => exact Kd.C_below HR0_9.out zq16_0); (case side2 => exact HC0_9.out); (case side3 => exact Kd.C_below HR0_10.out zq16_0); (case side4 => exact HC0_10.out); rintro e w78 ⟨v820, rfl, ho0, hb⟩; refine ⟨_, rfl, ?_⟩; have n0_ := Aside0.mk (Kd.R_lower ho0 (below_size zq16_0)); have n1_ := Aside0.mk (blk_below (g := gb818) (o := .cells #[.int .u8 a0_0, .int .u16 0, .bool a0_2, .bool a0_3, .int .i64 a0_4, .int .u8 a0_5, .int .u8 a0_6, .int .u32 a0_7, .int .u32 a0_8, .slice A0_9 l0_9.length c0_9, .slice A0_10 l0_10.length c0_10] 43 (0, 0)) zq16_3 hb); have n2_ := Aside0.mk (below_step zq16_0 hb); clear BK818; clear HB; have HO821 := n0_; have BK818 := n1_; have HB := n2_; clear n0_ n1_ n2_; (try clear hb); (try clear hb2); (try clear hk); (try clear hi); (try clear ho0); obtain ⟨Ao79, co79, eo79⟩ := Kd.R_slice HO821.out; subst eo79))
    go_ret
    exact ⟨by first | rfl | (simp [errW_none, errW_some] <;> rfl) | (simp [*, errW_none, errW_some] <;> rfl), by repeat (first | (with_reducible first | exact HB.out | apply below_alloc | apply pw_below_drewN | apply below_drew1 | refine below_set ?_ GE818.out) | exact HB.out)⟩

end Go.Proofs.Ytbacmhegalncjaa.XB
