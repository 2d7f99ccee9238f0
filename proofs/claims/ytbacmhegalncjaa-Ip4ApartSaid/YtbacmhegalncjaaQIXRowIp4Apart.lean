-- printed by a program of this session (wip/xprint), out of the translation; Lean checks it
import Derived.Test.YtbacmhegalncjaaQIXPx2
import Derived.Test.YtbacmhegalncjaaQIXOpen
import Derived.WalkKit
import Derived.ProofKit
import Derived.OpenShut
import Derived.ShutString
import Derived.ChangeOld
import Derived.Below
import Derived.SizedLaws
import Derived.JoinedCond
import Derived.Deep.CondSized
namespace Go.Proofs.Ytbacmhegalncjaa.Xip4Apart
open Go.RowKit Go.Proofs.Ytbacmhegalncjaa.XB Go.Proofs.Ytbacmhegalncjaa.XP Go.Proofs.YtbacmhegalncjaaW.PrintWords Go.Proofs.YtbacmhegalncjaaW.PrintLast Go.Proofs.YtbacmhegalncjaaW.PrintMore Go.Proofs.YtbacmhegalncjaaX
open Go.ChangeShapes Go.WideShapes Go.ChangeAt
set_option linter.unusedVariables false
/-- What is known of a value of this type; its measure. -/
def G41 (x : S41) : Prop := (Lit.int .u8 x.f0).wf = true ∧ (Lit.int .u16 x.f1).wf = true ∧ True ∧ True ∧ (Lit.int .i64 x.f4).wf = true ∧ (Lit.int .u8 x.f5).wf = true ∧ (Lit.int .u8 x.f6).wf = true ∧ (Lit.int .u32 x.f7).wf = true ∧ (Lit.int .u32 x.f8).wf = true ∧ (x.f9.length * 1 ≤ 140737488351232 ∧ ∀ e0 ∈ x.f9, ((Lit.int .u8 e0).wf = true))
def m41 (x : S41) : Nat := (1 + (1 + (1 + (1 + (1 + (1 + (1 + (1 + (1 + ((1 + sumOf (fun a => 1) x.f9))))))))))) + 1
instance : Inhabited S41 := ⟨z41⟩
theorem opn41 : Opn Try.prog 41 k41 G41 m41 := opn_iso (opn_struct (tot := 10) Try.underlying41 (by kernel_rfl) (opnF_cons rfl (by kernel_rfl) (opn_int (by kernel_rfl)) (opnF_cons rfl (by kernel_rfl) (opn_int (by kernel_rfl)) (opnF_cons rfl (by kernel_rfl) (opn_bool (by kernel_rfl)) (opnF_cons rfl (by kernel_rfl) (opn_bool (by kernel_rfl)) (opnF_cons rfl (by kernel_rfl) (opn_int (by kernel_rfl)) (opnF_cons rfl (by kernel_rfl) (opn_int (by kernel_rfl)) (opnF_cons rfl (by kernel_rfl) (opn_int (by kernel_rfl)) (opnF_cons rfl (by kernel_rfl) (opn_int (by kernel_rfl)) (opnF_cons rfl (by kernel_rfl) (opn_int (by kernel_rfl)) (opnF_last rfl (by kernel_rfl) (by kernel_rfl) (opn_slice (by kernel_rfl) (by kernel_rfl) (by kernel_rfl) (opn_int (by kernel_rfl)))))))))))))) _ (fun p => ⟨p.1, p.2.1, p.2.2.1, p.2.2.2.1, p.2.2.2.2.1, p.2.2.2.2.2.1, p.2.2.2.2.2.2.1, p.2.2.2.2.2.2.2.1, p.2.2.2.2.2.2.2.2.1, p.2.2.2.2.2.2.2.2.2⟩) (fun _ => rfl)
/-- What is known of a value of this type; its measure. -/
def G43 (x : S43) : Prop := G41 x.f0 ∧ (x.f1.length * 1 ≤ 140737488351232 ∧ ∀ e0 ∈ x.f1, ((Lit.int .u8 e0).wf = true))
def m43 (x : S43) : Nat := (m41 x.f0 + ((1 + sumOf (fun a => 1) x.f1))) + 1
instance : Inhabited S43 := ⟨z43⟩
theorem opn43 : Opn Try.prog 43 k43 G43 m43 := opn_iso (opn_struct (tot := 11) Try.underlying43 (by kernel_rfl) (opnF_cons rfl (by kernel_rfl) opn41 (opnF_last rfl (by kernel_rfl) (by kernel_rfl) (opn_slice (by kernel_rfl) (by kernel_rfl) (by kernel_rfl) (opn_int (by kernel_rfl)))))) _ (fun p => ⟨p.1, p.2⟩) (fun _ => rfl)
/-- THE ONE PURE STATEMENT. -/
def Pure : Prop := ∀ (x0 : S43), G43 x0 → ∃ k, weftlaw3_Ip4Apart.f k x0.f0.f0 x0.f0.f1 x0.f0.f2 x0.f0.f3 x0.f0.f4 x0.f0.f5 x0.f0.f6 x0.f0.f7 x0.f0.f8 x0.f0.f9 x0.f1 = some true
theorem own : ownKnob Try.prog.godebug = none := by kernel_rfl
theorem laidOut : laidOutB Try.prog = true := by kernel_rfl
set_option maxRecDepth 100000 in
set_option maxHeartbeats 2000000 in
theorem lifted (PU : Pure) (os : Os) (started : os.Started) (H : Type) (enc : TypeId × Value → H) :
    ReturnsInHanded {} Try.checked os 13 .any (Rows.ip4ApartSpec.pre6 enc Try.prog Try.f13 Rows.ip4ApartRow.domain false) (Rows.ip4ApartSpec.post enc Try.prog Try.f13 false true false false) := by
  refine returnsInHanded_of_change_sized (C := Try.checked) own started (by kernel_rfl) Try.func13
    (ChangeSpec.witness6 (enc := enc) (C := Try.checked) false ⟨#[], #[.agg #[.int .u8 0, .int .u16 0, .bool false, .bool false, .int .i64 0, .int .u8 0, .int .u8 0, .int .u32 0, .int .u32 0, .slice none 0 0, .slice none 0 0]], []⟩ 8 (by kernel_rfl) (by kernel_rfl) (by kernel_rfl) (by kernel_rfl)) ?_
  intro W base args ds gs before hval0 hW hcnd hsz0 _
  have hsz : (DataW.weightsEach Try.prog (Try.f13.params.toList ++ Rows.ip4ApartSpec.plain.varTypes Try.prog) (ds ++ gs)).all (· ≤ reachBytes) = true := hsz0
  have hval : ∀ (j : Nat) t v, Try.f13.params[j]? = some t → args[j]? = some v → Value.okWide Try.prog W .any base t v := hval0
  have hW' := hW
  obtain ⟨p, q, hA0, hV, rfl, hfz, hnd⟩ := hW
  have hA : DataW.TrodAll enc Try.prog W 0 (fun _ => true) true Try.f13.params.toList args.toList ds p := hA0
  rw [Try.params13] at hA hval hsz
  obtain ⟨v0, vs0, d0, ds0, p0, q0, hargs, rfl, rfl, h0, r0⟩ := trodAll_cons hA
  obtain ⟨rfl, rfl, rfl⟩ := trodAll_nil r0
  obtain rfl : args = #[v0] := by cases args; simp_all
  obtain ⟨rfl, rfl⟩ := trodVars_none hV
  have k0 := h0
  have lt0 : ∀ x ∈ p0, x.block < W.heap.size := by obtain ⟨m, hm⟩ := k0; exact DataW.trod_lt m _ _ _ hm
  obtain ⟨cs0, rfl⟩ := Go.Proofs.YtbacmhegalncjaaX.okWide_struct Try.underlying43 (hval 0 43 v0 rfl rfl)
  obtain ⟨x0, hK0, hG0, hm0⟩ := opn_arg opn43 h0 hsz (j := 0) (t := 43) rfl rfl
  obtain ⟨A0_9, c0_9, A0_10, c0_10, hcs0, hl0_9, hC0_9, hl0_10, hC0_10⟩ := k43_open hK0
  rcases cs0 with ⟨ls0⟩
  change ls0 = _ at hcs0
  subst hcs0
  have hP := PU x0 hG0
  clear hA0 hval0 hsz0 hsz
  obtain ⟨k, hk⟩ := hP
  refine (weftlaw3_Ip4Apart.calls k x0.f0.f0 x0.f0.f1 x0.f0.f2 x0.f0.f3 x0.f0.f4 x0.f0.f5 x0.f0.f6 x0.f0.f7 x0.f0.f8 _ _ x0.f0.f9 _ _ x0.f1 true W hC0_9 hl0_9 hC0_10 hl0_10 hk).mono fun e W' hE => ?_
  obtain ⟨rfl, bel⟩ := hE
  exact ⟨_, rfl, _, _, _, [], _, [], hW', trodAll_mk1 (shut_bool Try.underlying4 _), (trodAll_cons_mk (Below.trod laidOut (by kernel_rfl) (of_decide_eq_true (by kernel_rfl)) k0 bel lt0) trodAll_mk0), rfl, bel.frame _, fun h => by cases h⟩
theorem over (PU : Pure) : Rows.Ip4ApartSaid :=
  OpenClaim.holds_of_wide 13 Try.f13 rfl rfl rfl rfl rfl rfl rfl ⟨rfl, rfl, rfl, rfl, rfl⟩ rfl rfl rfl rfl rfl (by kernel_rfl) Try.func13 (by kernel_rfl)
    (of_decide_eq_true (by kernel_rfl)) (by unfold Func.isWrapper; first | (rw [if_pos (by decide +kernel)]; kernel_rfl) | (rw [if_neg (by decide +kernel)]; exact ⟨rfl, rfl⟩))
    (fun os started H enc _ => lifted PU os started H enc)
end Go.Proofs.Ytbacmhegalncjaa.Xip4Apart
