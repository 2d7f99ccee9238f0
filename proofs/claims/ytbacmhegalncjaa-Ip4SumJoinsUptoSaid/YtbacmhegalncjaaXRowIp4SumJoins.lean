-- printed by a program of this session (wip/xprint), out of the translation; Lean checks it
import Derived.Test.YtbacmhegalncjaaXBx2
import Derived.Test.YtbacmhegalncjaaXOpen
import Derived.WalkKit
import Derived.ProofKit
import Derived.OpenShut
import Derived.ShutString
import Derived.ChangeOld
import Derived.Below
import Derived.SizedLaws
import Derived.JoinedCond
import Derived.Deep.CondSized
namespace Go.Proofs.Ytbacmhegalncjaa.Xip4SumJoins
open Go.RowKit Go.Proofs.Ytbacmhegalncjaa.XB Go.Proofs.YtbacmhegalncjaaW.PrintWords Go.Proofs.YtbacmhegalncjaaW.PrintLast Go.Proofs.YtbacmhegalncjaaW.PrintMore Go.Proofs.YtbacmhegalncjaaX
open Go.ChangeShapes Go.WideShapes Go.ChangeAt
set_option linter.unusedVariables false
theorem opnA0 : Opn Try.prog 22 (Kd.slice 24 (Kd.slice 5 (Kd.int .u8))) (fun l => l.length * 24 ≤ 140737488351232 ∧ ∀ e0 ∈ l, ((e0.length * 1 ≤ 140737488351232 ∧ ∀ e1 ∈ e0, ((Lit.int .u8 e1).wf = true)))) (fun l => 1 + sumOf (fun a => (1 + sumOf (fun a => 1) a)) l) := (opn_slice (by kernel_rfl) (by kernel_rfl) (by kernel_rfl) (opn_slice (by kernel_rfl) (by kernel_rfl) (by kernel_rfl) (opn_int (by kernel_rfl))))
/-- THE ONE PURE STATEMENT. -/
def Pure : Prop := ∀ (x0 : List (List Int)) (x1 : Int), (x0.length * 24 ≤ 140737488351232 ∧ ∀ e0 ∈ x0, ((e0.length * 1 ≤ 140737488351232 ∧ ∀ e1 ∈ e0, ((Lit.int .u8 e1).wf = true)))) → (Lit.int .u16 x1).wf = true → ∃ k, weftlaw3_Ip4SumJoins.f k x0 x1 = some true
/-- THE ONE PURE STATEMENT up to a bulk. -/
def PureUpto : Prop := ∀ (x0 : List (List Int)) (x1 : Int), (x0.length * 24 ≤ 140737488351232 ∧ ∀ e0 ∈ x0, ((e0.length * 1 ≤ 140737488351232 ∧ ∀ e1 ∈ e0, ((Lit.int .u8 e1).wf = true)))) → (Lit.int .u16 x1).wf = true → (1 + sumOf (fun a => (1 + sumOf (fun a => 1) a)) x0) + 1 ≤ 1048576 → ∃ k, weftlaw3_Ip4SumJoins.f k x0 x1 = some true
theorem own : ownKnob Try.prog.godebug = none := by kernel_rfl
theorem laidOut : laidOutB Try.prog = true := by kernel_rfl
set_option maxRecDepth 100000 in
set_option maxHeartbeats 2000000 in
theorem lifted (PU : Pure) (os : Os) (started : os.Started) (H : Type) (enc : TypeId × Value → H) :
    ReturnsInHanded {} Try.checked os 3 .any (Rows.ip4SumJoinsSpec.pre6 enc Try.prog Try.f3 Rows.ip4SumJoinsRow.domain false) (Rows.ip4SumJoinsSpec.post enc Try.prog Try.f3 false true false false) := by
  refine returnsInHanded_of_change_sized (C := Try.checked) own started (by kernel_rfl) Try.func3
    (ChangeSpec.witness6 (enc := enc) (C := Try.checked) false ⟨#[], #[.slice none 0 0, .int .u16 0], []⟩ 8 (by kernel_rfl) (by kernel_rfl) (by kernel_rfl) (by kernel_rfl)) ?_
  intro W base args ds gs before hval0 hW hcnd hsz0 _
  have hsz : (DataW.weightsEach Try.prog (Try.f3.params.toList ++ Rows.ip4SumJoinsSpec.plain.varTypes Try.prog) (ds ++ gs)).all (· ≤ reachBytes) = true := hsz0
  have hval : ∀ (j : Nat) t v, Try.f3.params[j]? = some t → args[j]? = some v → Value.okWide Try.prog W .any base t v := hval0
  have hW' := hW
  obtain ⟨p, q, hA0, hV, rfl, hfz, hnd⟩ := hW
  have hA : DataW.TrodAll enc Try.prog W 0 (fun _ => true) true Try.f3.params.toList args.toList ds p := hA0
  rw [Try.params3] at hA hval hsz
  obtain ⟨v0, vs0, d0, ds0, p0, q0, hargs, rfl, rfl, h0, r0⟩ := trodAll_cons hA
  obtain ⟨v1, vs1, d1, ds1, p1, q1, rfl, rfl, rfl, h1, r1⟩ := trodAll_cons r0
  obtain ⟨rfl, rfl, rfl⟩ := trodAll_nil r1
  obtain rfl : args = #[v0, v1] := by cases args; simp_all
  obtain ⟨rfl, rfl⟩ := trodVars_none hV
  have k0 := h0
  have lt0 : ∀ x ∈ p0, x.block < W.heap.size := by obtain ⟨m, hm⟩ := k0; exact DataW.trod_lt m _ _ _ hm
  obtain ⟨a0, len0, cap0, rfl⟩ := okWide_slice Try.underlying22 (hval 0 22 v0 rfl rfl)
  obtain ⟨x0, hK0, hG0, hm0⟩ := opn_arg opnA0 h0 hsz (j := 0) (t := 22) rfl rfl
  obtain ⟨rfl, hl0, hC0⟩ := slice_of_K rfl hK0
  obtain ⟨x1, rfl, rfl, rfl, hG1⟩ := open_int Try.underlying23 (hval 1 23 v1 rfl rfl) h1
  have hP := PU x0 x1 hG0 hG1
  clear hA0 hval0 hsz0 hsz
  obtain ⟨k, hk⟩ := hP
  refine (weftlaw3_Ip4SumJoins.calls k _ _ x0 x1 true W hC0 hl0 hk).mono fun e W' hE => ?_
  obtain ⟨rfl, bel⟩ := hE
  exact ⟨_, rfl, _, _, _, [], _, [], hW', trodAll_mk1 (shut_bool Try.underlying4 _), (trodAll_cons_mk (Below.trod laidOut (by kernel_rfl) (of_decide_eq_true (by kernel_rfl)) k0 bel lt0) (trodAll_cons_mk (shut_int Try.underlying23 hG1) trodAll_mk0)), rfl, bel.frame _, fun h => by cases h⟩
set_option maxRecDepth 100000 in
set_option maxHeartbeats 2000000 in
theorem liftedUpto (PU : PureUpto) (os : Os) (started : os.Started) (H : Type) (enc : TypeId × Value → H) (F : Stop.Interp) :
    ReturnsInHanded {} Try.checked os 3 .any ((Rows.OpenSpec.upto Rows.ip4SumJoinsSpec).pre6 enc Try.prog Try.f3 Rows.ip4SumJoinsUptoRow.domain false) (((Rows.OpenSpec.upto Rows.ip4SumJoinsSpec).at F).post enc Try.prog Try.f3 false true false false) := by
  refine returnsInHanded_of_cond_sized (C := Try.checked) (s := (Rows.OpenSpec.upto Rows.ip4SumJoinsSpec)) (k := Rows.uptoSmall) rfl own started (by kernel_rfl) Try.func3
    (OpenSpec.witness (enc := enc) (C := Try.checked) (s := (Rows.OpenSpec.upto Rows.ip4SumJoinsSpec)) (k := Rows.uptoSmall) rfl false ⟨#[], #[.slice none 0 0, .int .u16 0], []⟩ 8 (by kernel_rfl) (by kernel_rfl) (by kernel_rfl) (x := ([.nil, .lit (.int .u16 0)], [], [])) (by kernel_rfl) rfl (by kernel_rfl)) ?_
  intro W base args ds gs before hval0 hW hcnd hk0 hsz0 _
  have hsz : (DataW.weightsEach Try.prog (Try.f3.params.toList ++ (Rows.OpenSpec.upto Rows.ip4SumJoinsSpec).bare.plain.varTypes Try.prog) (ds ++ gs)).all (· ≤ reachBytes) = true := hsz0
  have hval : ∀ (j : Nat) t v, Try.f3.params[j]? = some t → args[j]? = some v → Value.okWide Try.prog W .any base t v := hval0
  have hW' := hW
  obtain ⟨p, q, hA0, hV, rfl, hfz, hnd⟩ := hW
  have hA : DataW.TrodAll enc Try.prog W 0 (fun _ => true) true Try.f3.params.toList args.toList ds p := hA0
  rw [Try.params3] at hA hval hsz
  obtain ⟨v0, vs0, d0, ds0, p0, q0, hargs, rfl, rfl, h0, r0⟩ := trodAll_cons hA
  obtain ⟨v1, vs1, d1, ds1, p1, q1, rfl, rfl, rfl, h1, r1⟩ := trodAll_cons r0
  obtain ⟨rfl, rfl, rfl⟩ := trodAll_nil r1
  obtain rfl : args = #[v0, v1] := by cases args; simp_all
  obtain ⟨rfl, rfl⟩ := trodVars_none hV
  have k0 := h0
  have lt0 : ∀ x ∈ p0, x.block < W.heap.size := by obtain ⟨m, hm⟩ := k0; exact DataW.trod_lt m _ _ _ hm
  obtain ⟨a0, len0, cap0, rfl⟩ := okWide_slice Try.underlying22 (hval 0 22 v0 rfl rfl)
  obtain ⟨x0, hK0, hG0, hm0⟩ := opn_arg opnA0 h0 hsz (j := 0) (t := 22) rfl rfl
  obtain ⟨rfl, hl0, hC0⟩ := slice_of_K rfl hK0
  obtain ⟨x1, rfl, rfl, rfl, hG1⟩ := open_int Try.underlying23 (hval 1 23 v1 rfl rfl) h1
  have hbulk : Go.Proofs.Ytbacmhegalncjaa.Rows.uptoBulkAll ([d0, _] ++ []) ≤ 1048576 := of_decide_eq_true hk0
  simp only [List.append_nil, Go.Proofs.Ytbacmhegalncjaa.Rows.uptoBulkAll, Go.Proofs.Ytbacmhegalncjaa.Rows.uptoBulk] at hbulk
  have hP := PU x0 x1 hG0 hG1 (by omega)
  clear hA0 hval0 hsz0 hsz
  obtain ⟨k, hk⟩ := hP
  refine (weftlaw3_Ip4SumJoins.calls k _ _ x0 x1 true W hC0 hl0 hk).mono fun e W' hE => ?_
  obtain ⟨rfl, bel⟩ := hE
  exact ⟨_, rfl, _, _, _, [], _, [], hW', trodAll_mk1 (shut_bool Try.underlying4 _), (trodAll_cons_mk (Below.trod laidOut (by kernel_rfl) (of_decide_eq_true (by kernel_rfl)) k0 bel lt0) (trodAll_cons_mk (shut_int Try.underlying23 hG1) trodAll_mk0)), rfl, bel.frame _, fun h => by cases h⟩
theorem over (PU : Pure) : Rows.Ip4SumJoinsSaid :=
  OpenClaim.holds_of_wide 3 Try.f3 rfl rfl rfl rfl rfl rfl rfl ⟨rfl, rfl, rfl, rfl, rfl⟩ rfl rfl rfl rfl rfl (by kernel_rfl) Try.func3 (by kernel_rfl)
    (of_decide_eq_true (by kernel_rfl)) (by unfold Func.isWrapper; first | (rw [if_pos (by decide +kernel)]; kernel_rfl) | (rw [if_neg (by decide +kernel)]; exact ⟨rfl, rfl⟩))
    (fun os started H enc _ => lifted PU os started H enc)
theorem overUpto (PU : PureUpto) : Rows.Ip4SumJoinsUptoSaid :=
  OpenClaim.holds_of_cond 3 Try.f3 rfl rfl rfl rfl rfl rfl rfl ⟨rfl, rfl, rfl, rfl, rfl⟩ rfl rfl rfl rfl rfl (by kernel_rfl) Try.func3 (by kernel_rfl)
    (of_decide_eq_true (by kernel_rfl)) (by unfold Func.isWrapper; first | (rw [if_pos (by decide +kernel)]; kernel_rfl) | (rw [if_neg (by decide +kernel)]; exact ⟨rfl, rfl⟩))
    (fun os started H enc _ F => liftedUpto PU os started H enc F)
end Go.Proofs.Ytbacmhegalncjaa.Xip4SumJoins
