/- IcmpAboutFault: the row and its card.
   Conditions: those of the given row; the ties are given. -/
import Derived.Test.YtfjbpeadhaekbaaDoorSRowP
import Derived.Test.YtfjbpeadhaekbaaDoorSAbout
import Derived.Test.YtfjbpeadhaekbaaDoorCards
import Derived.Test.YtfjbpeadhaekbaaDoorTie
import Derived.WalkKit
import Derived.ShutString
import Derived.ChangeOld
import Derived.Below
import Derived.JoinedCond
namespace Go.Proofs.YtfjbpeadhaekbaaDoorS
open Go Go.RowKit Go.Proofs Go.Proofs.YtfjbpeadhaekbaaDoorX Go.Proofs.YtfjbpeadhaekbaaDoor
open Go.ChangeShapes Go.WideShapes Go.ChangeAt
set_option maxRecDepth 100000
set_option linter.unusedVariables false
theorem icmpAboutFault_lifted (os : Os) (started : os.Started) (H : Type) (enc : TypeId × Value → H) :
    ReturnsInHanded {} Tryd.checked os 5 .any (fun w args => (Rows.icmpAboutFaultSpec.pre enc Tryd.prog Tryd.f5 [] false w args ∧ laidMetH Tryd.prog laid3 w) ∧ sizedMet enc Tryd.prog Tryd.f5 (OpenSpec.ofChange Rows.icmpAboutFaultSpec) false w args)
      (Rows.icmpAboutFaultSpec.post enc Tryd.prog Tryd.f5 false true false false) := by
  refine returnsInHanded_of_change_and (C := Tryd.checked) (X := fun w _ => laidMetH Tryd.prog laid3 w) (fun _ _ _ hh h => h.of_heap hh) own_ started (by kernel_rfl) Tryd.func5
    (ChangeSpec.witness_shaped (enc := enc) (C := Tryd.checked) (os := os) (X := fun w _ => laidMetH Tryd.prog laid3 w) false (World.doorLaid Tryd.prog 400 os) #[.agg (pb pz none 0 0 none 0 0).toArray, .int .u8 0, .int .u8 0, .int .i64 0, .int .u32 0] 8 rfl (World.shaped_of_RefB (by kernel_rfl) (by kernel_rfl)) (by kernel_rfl) (by kernel_rfl) (by kernel_rfl)
      (laidMetH_of_parts3 (fuel := 8) (laidMet_of_run' 8 (by kernel_rfl) (by kernel_rfl)) (by kernel_rfl) (by kernel_rfl))) ?_
  intro W base args ds gs before hval0 hW _ hsz0 hL _
  have hsz : (DataW.weightsEach Tryd.prog (Tryd.f5.params.toList ++ Rows.icmpAboutFaultSpec.plain.varTypes Tryd.prog) (ds ++ gs)).all (· ≤ reachBytes) = true := hsz0
  have hval : ∀ (j : Nat) t v, Tryd.f5.params[j]? = some t → args[j]? = some v → Value.okWide Tryd.prog W .any base t v := hval0
  have hW' := hW
  obtain ⟨p, q, hA0, hV, rfl, hfz, hnd⟩ := hW
  have hA : DataW.TrodAll enc Tryd.prog W 0 (fun _ => true) true Tryd.f5.params.toList args.toList ds p := hA0
  rw [Tryd.params5] at hA hval hsz
  obtain ⟨v0, vs0, d0, ds0, p0, q0, hargs, rfl, rfl, h0, r0⟩ := trodAll_cons hA
  obtain ⟨v1, vs1, d1, ds1, p1, q1, rfl, rfl, rfl, h1, r1⟩ := trodAll_cons r0
  obtain ⟨v2, vs2, d2, ds2, p2, q2, rfl, rfl, rfl, h2, r2⟩ := trodAll_cons r1
  obtain ⟨v3, vs3, d3, ds3, p3, q3, rfl, rfl, rfl, h3, r3⟩ := trodAll_cons r2
  obtain ⟨v4, vs4, d4, ds4, p4, q4, rfl, rfl, rfl, h4, r4⟩ := trodAll_cons r3
  obtain ⟨rfl, rfl, rfl⟩ := trodAll_nil r4
  obtain rfl : args = #[v0, v1, v2, v3, v4] := by cases args; simp_all
  obtain ⟨rfl, rfl⟩ := trodVars_none hV
  have k0 := h0
  have lt0 : ∀ x ∈ p0, x.block < W.heap.size := by obtain ⟨m, hm⟩ := k0; exact DataW.trod_lt m _ _ _ hm
  obtain ⟨cs0, rfl⟩ := okWide_struct Tryd.underlying29 (hval 0 29 v0 rfl rfl)
  obtain ⟨pk0, A0, n0, c0, B0, m0, e0, hcs0, hF0, hP0⟩ := pkt_of (opn_arg opn_pkt h0 hsz (j := 0) (t := 29) rfl rfl)
  rcases cs0 with ⟨ls0⟩
  change ls0 = _ at hcs0
  subst hcs0
  obtain ⟨x1, rfl, rfl, rfl, hG1⟩ := open_int (k := .u8) (by kernel_rfl) (hval 1 5 v1 rfl rfl) h1
  obtain ⟨x2, rfl, rfl, rfl, hG2⟩ := open_int (k := .u8) (by kernel_rfl) (hval 2 5 v2 rfl rfl) h2
  obtain ⟨x3, rfl, rfl, rfl, hG3⟩ := open_int (k := .i64) (by kernel_rfl) (hval 3 3 v3 rfl rfl) h3
  obtain ⟨x4, rfl, rfl, rfl, hG4⟩ := open_int (k := .u32) (by kernel_rfl) (hval 4 24 v4 rfl rfl) h4
  clear hA0 hval0 hsz0 hsz
  refine (IcmpAboutFault_t (gl_of hL) hF0 hP0 (wf_u8 hG1) (wf_u8 hG2) (wf_i64 hG3) (wf_u32 hG4)).mono fun e W' hE => ?_
  obtain ⟨rfl, bel⟩ := hE
  exact ⟨_, rfl, _, _, _, [], _, [], hW', trodAll_mk1 (shut_bool Tryd.underlying4 _), (trodAll_cons_mk (Below.trod laidOut_ (by kernel_rfl) (of_decide_eq_true (by kernel_rfl)) k0 bel lt0) (trodAll_cons_mk (shut_int (k := .u8) (by kernel_rfl) hG1) (trodAll_cons_mk (shut_int (k := .u8) (by kernel_rfl) hG2) (trodAll_cons_mk (shut_int (k := .i64) (by kernel_rfl) hG3) (trodAll_cons_mk (shut_int (k := .u32) (by kernel_rfl) hG4) trodAll_mk0))))), rfl, bel.frame _, fun h => by cases h⟩
theorem icmpAboutFault_said : Rows.IcmpAboutFaultSaid :=
  OpenClaim.holds_of_wide 5 Tryd.f5 rfl rfl rfl rfl rfl rfl rfl ⟨rfl, rfl, rfl, rfl, rfl⟩ rfl rfl rfl rfl rfl (by kernel_rfl) Tryd.func5 (by kernel_rfl)
    (of_decide_eq_true (by kernel_rfl)) (by unfold Func.isWrapper; first | (rw [if_pos (by decide +kernel)]; kernel_rfl) | (rw [if_neg (by decide +kernel)]; exact ⟨rfl, rfl⟩))
    (fun os started H enc _ => icmpAboutFault_lifted os started H enc)
end Go.Proofs.YtfjbpeadhaekbaaDoorS
namespace Go.Proofs.YtfjbpeadhaekbaaDoor
open Go Go.RowKit Go.Proofs Go.Proofs.YtfjbpeadhaekbaaDoorS
theorem icmpAboutFaultCard_holds : Rows.IcmpAboutFaultCardSaid :=
  Claim7.holds_tied_plain_at .later [] [.data, .data, .data] true (true, "b19f78d4ee27aa44a3e8821f2b3850f859915df4bbe36771b5dbeefacad20334") false
    icmpAboutFault_said (fun _ h => by cases h) (by kernel_rfl) (fun _ h => by cases h) icmpAboutFault_row_tie rfl ⟨rfl, rfl⟩ (by kernel_rfl) rfl
    (fun f fn hf hfn => by
      obtain rfl : f = 5 := Option.some.inj ((show Tryd.prog.funcNamed "weft/weftlaw6.IcmpAboutFault" = some 5 by kernel_rfl).symm.trans hf) |>.symm
      obtain rfl : fn = Tryd.f5 := (Option.some.inj (Tryd.func5.symm.trans hfn)).symm
      exact ⟨by kernel_rfl, fun j t ht => by
        rw [Tryd.params5] at ht
        have hm : t ∈ [29, 5, 5, 3, 24] := by simpa using Array.mem_of_getElem? ht
        have hall : ([29, 5, 5, 3, 24].all fun u => !Tryd.prog.wantsStandIn u) = true := by kernel_rfl
        exact (show Tryd.prog.wantsStandIn t = false by simpa using List.all_eq_true.1 hall t hm)⟩)
    (by kernel_rfl)
end Go.Proofs.YtfjbpeadhaekbaaDoor
