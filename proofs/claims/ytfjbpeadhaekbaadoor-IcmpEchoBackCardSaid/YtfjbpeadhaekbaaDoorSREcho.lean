/- IcmpEchoBack: the row and its card.
   Conditions: those of the given row; the ties are given. -/
import Derived.Test.YtfjbpeadhaekbaaDoorSRowQ
import Derived.Test.YtfjbpeadhaekbaaDoorSEcho
import Derived.Test.YtfjbpeadhaekbaaDoorCards
import Derived.Test.YtfjbpeadhaekbaaDoorTie
import Derived.WalkKit
import Derived.ShutString
import Derived.ChangeOld
import Derived.Below
import Derived.JoinedCond
namespace Go.Proofs.YtfjbpeadhaekbaaDoorS
open Go Go.RowKit Go.Proofs Go.Proofs.YtfjbpeadhaekbaaDoorX Go.Proofs.YtfjbpeadhaekbaaDoor
open Go.ChangeShapes Go.WideShapes Go.ChangeAt
set_option maxRecDepth 100000
set_option linter.unusedVariables false
theorem icmpEchoBack_lifted (os : Os) (started : os.Started) (H : Type) (enc : TypeId × Value → H) :
    ReturnsInHanded {} Tryd.checked os 12 .any (fun w args => (Rows.icmpEchoBackSpec.pre enc Tryd.prog Tryd.f12 [] false w args ∧ laidMetH Tryd.prog laid3 w) ∧ sizedMet enc Tryd.prog Tryd.f12 (OpenSpec.ofChange Rows.icmpEchoBackSpec) false w args)
      (Rows.icmpEchoBackSpec.post enc Tryd.prog Tryd.f12 false true false false) := by
  refine returnsInHanded_of_change_and (C := Tryd.checked) (X := fun w _ => laidMetH Tryd.prog laid3 w) (fun _ _ _ hh h => h.of_heap hh) own_ started (by kernel_rfl) Tryd.func12
    (ChangeSpec.witness_shaped (enc := enc) (C := Tryd.checked) (os := os) (X := fun w _ => laidMetH Tryd.prog laid3 w) false (World.doorLaid Tryd.prog 400 os) #[.agg (pv pz none 0 0).toArray, .agg (mv 0 0 0 none 0 0).toArray] 8 rfl (World.shaped_of_RefB (by kernel_rfl) (by kernel_rfl)) (by kernel_rfl) (by kernel_rfl) (by kernel_rfl)
      (laidMetH_of_parts3 (fuel := 8) (laidMet_of_run' 8 (by kernel_rfl) (by kernel_rfl)) (by kernel_rfl) (by kernel_rfl))) ?_
  intro W base args ds gs before hval0 hW _ hsz0 hL _
  have hsz : (DataW.weightsEach Tryd.prog (Tryd.f12.params.toList ++ Rows.icmpEchoBackSpec.plain.varTypes Tryd.prog) (ds ++ gs)).all (· ≤ reachBytes) = true := hsz0
  have hval : ∀ (j : Nat) t v, Tryd.f12.params[j]? = some t → args[j]? = some v → Value.okWide Tryd.prog W .any base t v := hval0
  have hW' := hW
  obtain ⟨p, q, hA0, hV, rfl, hfz, hnd⟩ := hW
  have hA : DataW.TrodAll enc Tryd.prog W 0 (fun _ => true) true Tryd.f12.params.toList args.toList ds p := hA0
  rw [Tryd.params12] at hA hval hsz
  obtain ⟨v0, vs0, d0, ds0, p0, q0, hargs, rfl, rfl, h0, r0⟩ := trodAll_cons hA
  obtain ⟨v1, vs1, d1, ds1, p1, q1, rfl, rfl, rfl, h1, r1⟩ := trodAll_cons r0
  obtain ⟨rfl, rfl, rfl⟩ := trodAll_nil r1
  obtain rfl : args = #[v0, v1] := by cases args; simp_all
  obtain ⟨rfl, rfl⟩ := trodVars_none hV
  have k0 := h0
  have lt0 : ∀ x ∈ p0, x.block < W.heap.size := by obtain ⟨m, hm⟩ := k0; exact DataW.trod_lt m _ _ _ hm
  obtain ⟨cs0, rfl⟩ := okWide_struct Tryd.underlying27 (hval 0 27 v0 rfl rfl)
  obtain ⟨pk0, A0, n0, c0, hcs0, hP0, hc0, hb0, hF0⟩ := head_of (opn_arg opn_head h0 hsz (j := 0) (t := 27) rfl rfl)
  rcases cs0 with ⟨ls0⟩
  change ls0 = _ at hcs0
  subst hcs0
  have k1 := h1
  have lt1 : ∀ x ∈ p1, x.block < W.heap.size := by obtain ⟨m, hm⟩ := k1; exact DataW.trod_lt m _ _ _ hm
  obtain ⟨cs1, rfl⟩ := okWide_struct Tryd.underlying40 (hval 1 40 v1 rfl rfl)
  obtain ⟨a1, b1, r1, A1, n1, c1, l1, hcs1, ha1, hb1, hr1, hP1, hB1, hc1, hl1⟩ := msg_of (opn_arg opn_msg h1 hsz (j := 1) (t := 40) rfl rfl)
  rcases cs1 with ⟨ls1⟩
  change ls1 = _ at hcs1
  subst hcs1
  clear hA0 hval0 hsz0 hsz
  refine (IcmpEchoBack_t (gl_of hL) hF0 hP0 hc0 hr1 hB1 hl1 hP1).mono fun e W' hE => ?_
  obtain ⟨rfl, bel⟩ := hE
  exact ⟨_, rfl, _, _, _, [], _, [], hW', trodAll_mk1 (shut_bool Tryd.underlying4 _), (trodAll_cons_mk (Below.trod laidOut_ (by kernel_rfl) (of_decide_eq_true (by kernel_rfl)) k0 bel lt0) (trodAll_cons_mk (Below.trod laidOut_ (by kernel_rfl) (of_decide_eq_true (by kernel_rfl)) k1 bel lt1) trodAll_mk0)), rfl, bel.frame _, fun h => by cases h⟩
theorem icmpEchoBack_said : Rows.IcmpEchoBackSaid :=
  OpenClaim.holds_of_wide 12 Tryd.f12 rfl rfl rfl rfl rfl rfl rfl ⟨rfl, rfl, rfl, rfl, rfl⟩ rfl rfl rfl rfl rfl (by kernel_rfl) Tryd.func12 (by kernel_rfl)
    (of_decide_eq_true (by kernel_rfl)) (by unfold Func.isWrapper; first | (rw [if_pos (by decide +kernel)]; kernel_rfl) | (rw [if_neg (by decide +kernel)]; exact ⟨rfl, rfl⟩))
    (fun os started H enc _ => icmpEchoBack_lifted os started H enc)
end Go.Proofs.YtfjbpeadhaekbaaDoorS
namespace Go.Proofs.YtfjbpeadhaekbaaDoor
open Go Go.RowKit Go.Proofs Go.Proofs.YtfjbpeadhaekbaaDoorS
theorem icmpEchoBackCard_holds : Rows.IcmpEchoBackCardSaid :=
  Claim7.holds_tied_plain_at .later [] [.data, .data, .data] true (true, "b19f78d4ee27aa44a3e8821f2b3850f859915df4bbe36771b5dbeefacad20334") false
    icmpEchoBack_said (fun _ h => by cases h) (by kernel_rfl) (fun _ h => by cases h) icmpEchoBack_row_tie rfl ⟨rfl, rfl⟩ (by kernel_rfl) rfl
    (fun f fn hf hfn => by
      obtain rfl : f = 12 := Option.some.inj ((show Tryd.prog.funcNamed "weft/weftlaw6.IcmpEchoBack" = some 12 by kernel_rfl).symm.trans hf) |>.symm
      obtain rfl : fn = Tryd.f12 := (Option.some.inj (Tryd.func12.symm.trans hfn)).symm
      exact ⟨by kernel_rfl, fun j t ht => by
        rw [Tryd.params12] at ht
        have hm : t ∈ [27, 40] := by simpa using Array.mem_of_getElem? ht
        have hall : ([27, 40].all fun u => !Tryd.prog.wantsStandIn u) = true := by kernel_rfl
        exact (show Tryd.prog.wantsStandIn t = false by simpa using List.all_eq_true.1 hall t hm)⟩)
    (by kernel_rfl)
end Go.Proofs.YtfjbpeadhaekbaaDoor
