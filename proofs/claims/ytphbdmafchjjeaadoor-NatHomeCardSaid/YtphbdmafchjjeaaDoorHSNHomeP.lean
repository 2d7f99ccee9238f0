/- NatHome: the row.
   Conditions: those of the given row. -/
import Derived.Test.YtphbdmafchjjeaaDoorHSRowH
import Derived.Test.YtphbdmafchjjeaaDoorCards
import Derived.Test.YtphbdmafchjjeaaDoorTie
import Derived.WalkKit
import Derived.ProofKit
import Derived.OpenShut
import Derived.ShutString
import Derived.ChangeOld
import Derived.Below
import Derived.SizedLaws
import Derived.JoinedCond
import Derived.Deep.CondSized
namespace Go.Proofs.YtphbdmafchjjeaaDoorS
open Go Go.RowKit Go.Proofs Go.Proofs.YtphbdmafchjjeaaDoorX Go.Proofs.YtphbdmafchjjeaaDoor
open Go.ChangeShapes Go.WideShapes Go.ChangeAt
set_option linter.unusedVariables false
set_option maxRecDepth 100000 in
set_option maxHeartbeats 2000000 in
theorem natHome_lifted (os : Os) (started : os.Started) (H : Type) (enc : TypeId × Value → H) :
    ReturnsInHanded {} Tryd.checked os 6 .any (fun w args => (Rows.natHomeSpec.pre enc Tryd.prog Tryd.f6 [] false w args ∧ laidMetH Tryd.prog laidH w) ∧ sizedMet enc Tryd.prog Tryd.f6 (OpenSpec.ofChange Rows.natHomeSpec) false w args)
      (Rows.natHomeSpec.post enc Tryd.prog Tryd.f6 false true false false) := by
  refine returnsInHanded_of_change_and (C := Tryd.checked) (X := fun w _ => laidMetH Tryd.prog laidH w) (fun _ _ _ hh h => h.of_heap hh) own_ started (by kernel_rfl) Tryd.func6
    (ChangeSpec.witness_shaped (enc := enc) (C := Tryd.checked) (os := os) (X := fun w _ => laidMetH Tryd.prog laidH w) false (World.doorLaid Tryd.prog 400 os) #[.agg (pb pz none 0 0 none 0 0).toArray, .agg #[.int .u32 0, .int .u32 0, .int .u8 0, .int .u16 0, .int .u16 0], .int .u8 0, .int .u8 0, .int .u32 0, .int .u32 0, .int .u32 0] 8 rfl (World.shaped_of_RefB (by kernel_rfl) (by kernel_rfl)) (by kernel_rfl) (by kernel_rfl) (by kernel_rfl)
      (laidMetH_of_parts3 (fuel := 8) (laidMet_of_run' 8 (by kernel_rfl) (by kernel_rfl)) (by kernel_rfl) (by kernel_rfl))) ?_
  intro W base args ds gs before hval0 hW _ hsz0 hL _
  have hsz : (DataW.weightsEach Tryd.prog (Tryd.f6.params.toList ++ Rows.natHomeSpec.plain.varTypes Tryd.prog) (ds ++ gs)).all (· ≤ reachBytes) = true := hsz0
  have hval : ∀ (j : Nat) t v, Tryd.f6.params[j]? = some t → args[j]? = some v → Value.okWide Tryd.prog W .any base t v := hval0
  have hW' := hW
  obtain ⟨p, q, hA0, hV, rfl, hfz, hnd⟩ := hW
  have hA : DataW.TrodAll enc Tryd.prog W 0 (fun _ => true) true Tryd.f6.params.toList args.toList ds p := hA0
  rw [Tryd.params6] at hA hval hsz
  obtain ⟨v0, vs0, d0, ds0, p0, q0, hargs, rfl, rfl, h0, r0⟩ := trodAll_cons hA
  obtain ⟨v1, vs1, d1, ds1, p1, q1, rfl, rfl, rfl, h1, r1⟩ := trodAll_cons r0
  obtain ⟨v2, vs2, d2, ds2, p2, q2, rfl, rfl, rfl, h2, r2⟩ := trodAll_cons r1
  obtain ⟨v3, vs3, d3, ds3, p3, q3, rfl, rfl, rfl, h3, r3⟩ := trodAll_cons r2
  obtain ⟨v4, vs4, d4, ds4, p4, q4, rfl, rfl, rfl, h4, r4⟩ := trodAll_cons r3
  obtain ⟨v5, vs5, d5, ds5, p5, q5, rfl, rfl, rfl, h5, r5⟩ := trodAll_cons r4
  obtain ⟨v6, vs6, d6, ds6, p6, q6, rfl, rfl, rfl, h6, r6⟩ := trodAll_cons r5
  obtain ⟨rfl, rfl, rfl⟩ := trodAll_nil r6
  obtain rfl : args = #[v0, v1, v2, v3, v4, v5, v6] := by cases args; simp_all
  obtain ⟨rfl, rfl⟩ := trodVars_none hV
  have k0 := h0
  have lt0 : ∀ x ∈ p0, x.block < W.heap.size := by obtain ⟨m, hm⟩ := k0; exact DataW.trod_lt m _ _ _ hm
  obtain ⟨cs0, rfl⟩ := okWide_struct Tryd.underlying45 (hval 0 45 v0 rfl rfl)
  obtain ⟨z0, A0, n0, c0, hcs0, hS0⟩ := npkt_ofP (opn_arg opn_npkt h0 hsz (j := 0) (t := 45) rfl rfl)
  rcases cs0 with ⟨ls0⟩
  change ls0 = _ at hcs0
  subst hcs0
  have k1 := h1
  have lt1 : ∀ x ∈ p1, x.block < W.heap.size := by obtain ⟨m, hm⟩ := k1; exact DataW.trod_lt m _ _ _ hm
  obtain ⟨cs1, rfl⟩ := okWide_struct Tryd.underlying32 (hval 1 32 v1 rfl rfl)
  obtain ⟨z1, A1, n1, c1, hcs1, hS1⟩ := ntup_ofP (opn_arg opn_ntup h1 hsz (j := 1) (t := 32) rfl rfl)
  rcases cs1 with ⟨ls1⟩
  change ls1 = _ at hcs1
  subst hcs1
  obtain ⟨x2, rfl, rfl, rfl, hG2⟩ := open_int (k := .u8) (by kernel_rfl) (hval 2 5 v2 rfl rfl) h2
  obtain ⟨x3, rfl, rfl, rfl, hG3⟩ := open_int (k := .u8) (by kernel_rfl) (hval 3 5 v3 rfl rfl) h3
  obtain ⟨x4, rfl, rfl, rfl, hG4⟩ := open_int (k := .u32) (by kernel_rfl) (hval 4 25 v4 rfl rfl) h4
  obtain ⟨x5, rfl, rfl, rfl, hG5⟩ := open_int (k := .u32) (by kernel_rfl) (hval 5 25 v5 rfl rfl) h5
  obtain ⟨x6, rfl, rfl, rfl, hG6⟩ := open_int (k := .u32) (by kernel_rfl) (hval 6 25 v6 rfl rfl) h6
  clear hA0 hval0 hsz0 hsz
  refine (NatHome_t (glh hL) hS0 hS1 (wf_u8 hG2) (wf_u8 hG3) (wf_u32 hG4) (wf_u32 hG5) (wf_u32 hG6)).mono fun e W' hE => ?_
  obtain ⟨rfl, bel⟩ := hE
  exact ⟨_, rfl, _, _, _, [], _, [], hW', trodAll_mk1 (shut_bool Tryd.underlying4 _), (trodAll_cons_mk (Below.trod laidOut_ (by kernel_rfl) (of_decide_eq_true (by kernel_rfl)) k0 bel lt0) (trodAll_cons_mk (Below.trod laidOut_ (by kernel_rfl) (of_decide_eq_true (by kernel_rfl)) k1 bel lt1) (trodAll_cons_mk (shut_int (k := .u8) (by kernel_rfl) hG2) (trodAll_cons_mk (shut_int (k := .u8) (by kernel_rfl) hG3) (trodAll_cons_mk (shut_int (k := .u32) (by kernel_rfl) hG4) (trodAll_cons_mk (shut_int (k := .u32) (by kernel_rfl) hG5) (trodAll_cons_mk (shut_int (k := .u32) (by kernel_rfl) hG6) trodAll_mk0))))))), rfl, bel.frame _, fun h => by cases h⟩
set_option maxRecDepth 100000 in
theorem natHome_said : Rows.NatHomeSaid :=
  OpenClaim.holds_of_wide 6 Tryd.f6 rfl rfl rfl rfl rfl rfl rfl ⟨rfl, rfl, rfl, rfl, rfl⟩ rfl rfl rfl rfl rfl (by kernel_rfl) Tryd.func6 (by kernel_rfl)
    (of_decide_eq_true (by kernel_rfl)) (by unfold Func.isWrapper; first | (rw [if_pos (by decide +kernel)]; kernel_rfl) | (rw [if_neg (by decide +kernel)]; exact ⟨rfl, rfl⟩))
    (fun os started H enc _ => natHome_lifted os started H enc)
end Go.Proofs.YtphbdmafchjjeaaDoorS
namespace Go.Proofs.YtphbdmafchjjeaaDoor
open Go Go.RowKit Go.Proofs Go.Proofs.YtphbdmafchjjeaaDoorS
set_option maxRecDepth 100000 in
theorem natHomeCardP_holds : Rows.NatHomeCardSaid :=
  Claim7.holds_tied_plain_at .later [] [.data, .data, .data, .data] true (true, "05d3eee01da3469231f68af38eadf10ceab0b13efeb002b3822d2bd5f33ae681") false
    natHome_said (fun _ h => by cases h) (by kernel_rfl) (fun _ h => by cases h) natHome_row_tie rfl ⟨rfl, rfl⟩ (by kernel_rfl) rfl
    (fun f fn hf hfn => by
      obtain rfl : f = 6 := Option.some.inj ((show Tryd.prog.funcNamed "weft/weftlaw23.NatHome" = some 6 by kernel_rfl).symm.trans hf) |>.symm
      obtain rfl : fn = Tryd.f6 := (Option.some.inj (Tryd.func6.symm.trans hfn)).symm
      exact ⟨by kernel_rfl, fun j t ht => by
        rw [Tryd.params6] at ht
        have hm : t ∈ [45, 32, 5, 5, 25, 25, 25] := by simpa using Array.mem_of_getElem? ht
        have hall : ([45, 32, 5, 5, 25, 25, 25].all fun u => !Tryd.prog.wantsStandIn u) = true := by kernel_rfl
        exact (show Tryd.prog.wantsStandIn t = false by simpa using List.all_eq_true.1 hall t hm)⟩)
    (by kernel_rfl)
end Go.Proofs.YtphbdmafchjjeaaDoor
