-- printed by a program of this session (wip/xprint), out of the translation; Lean checks it
import Derived.Test.YtmjhfkjnnpnoaaaQBXAx4
import Derived.Test.YtmjhfkjnnpnoaaaQBXOpen
import Derived.WalkKit
import Derived.ProofKit
import Derived.OpenShut
import Derived.ShutString
import Derived.ChangeOld
import Derived.Below
import Derived.SizedLaws
import Derived.JoinedCond
import Derived.Deep.CondSized
namespace Go.Proofs.Ytmjhfkjnnpnoaaa.XicmpFlipTold
open Go.RowKit Go.Proofs.Ytmjhfkjnnpnoaaa.XA Go.Proofs.YtmjhfkjnnpnoaaaW.PrintWords Go.Proofs.YtmjhfkjnnpnoaaaW.PrintLast Go.Proofs.YtmjhfkjnnpnoaaaW.PrintMore Go.Proofs.YtmjhfkjnnpnoaaaX
open Go.ChangeShapes Go.WideShapes Go.ChangeAt
set_option linter.unusedVariables false
/-- What is known of a value of this type; its measure. -/
def G25 (x : S25) : Prop := (Lit.int .u8 x.f0).wf = true ∧ (Lit.int .u8 x.f1).wf = true ∧ (Lit.int .u32 x.f2).wf = true ∧ (x.f3.length * 1 ≤ 140737488351232 ∧ ∀ e0 ∈ x.f3, ((Lit.int .u8 e0).wf = true))
def m25 (x : S25) : Nat := (1 + (1 + (1 + ((1 + sumOf (fun a => 1) x.f3))))) + 1
instance : Inhabited S25 := ⟨z25⟩
theorem opn25 : Opn Try.prog 25 k25 G25 m25 := opn_iso (opn_struct (tot := 4) Try.underlying25 (by kernel_rfl) (opnF_cons rfl (by kernel_rfl) (opn_int (by kernel_rfl)) (opnF_cons rfl (by kernel_rfl) (opn_int (by kernel_rfl)) (opnF_cons rfl (by kernel_rfl) (opn_int (by kernel_rfl)) (opnF_last rfl (by kernel_rfl) (by kernel_rfl) (opn_slice (by kernel_rfl) (by kernel_rfl) (by kernel_rfl) (opn_int (by kernel_rfl)))))))) _ (fun p => ⟨p.1, p.2.1, p.2.2.1, p.2.2.2⟩) (fun _ => rfl)
/-- THE ONE PURE STATEMENT. -/
def Pure : Prop := ∀ (x0 : S25) (x1 : Int), G25 x0 → (Lit.int .i64 x1).wf = true → ∃ k, weftlaw6_IcmpFlipTold.f k x0.f0 x0.f1 x0.f2 x0.f3 x1 = some true
theorem own : ownKnob Try.prog.godebug = none := by kernel_rfl
theorem laidOut : laidOutB Try.prog = true := by kernel_rfl
set_option maxRecDepth 100000 in
set_option maxHeartbeats 2000000 in
theorem lifted (PU : Pure) (os : Os) (started : os.Started) (H : Type) (enc : TypeId × Value → H) :
    ReturnsInHanded {} Try.checked os 4 .any (Rows.icmpFlipToldSpec.pre6 enc Try.prog Try.f4 Rows.icmpFlipToldRow.domain false) (Rows.icmpFlipToldSpec.post enc Try.prog Try.f4 false true false false) := by
  refine returnsInHanded_of_change_sized (C := Try.checked) own started (by kernel_rfl) Try.func4
    (ChangeSpec.witness6 (enc := enc) (C := Try.checked) false ⟨#[], #[.agg #[.int .u8 0, .int .u8 0, .int .u32 0, .slice none 0 0], .int .i64 0], []⟩ 8 (by kernel_rfl) (by kernel_rfl) (by kernel_rfl) (by kernel_rfl)) ?_
  intro W base args ds gs before hval0 hW hcnd hsz0 _
  have hsz : (DataW.weightsEach Try.prog (Try.f4.params.toList ++ Rows.icmpFlipToldSpec.plain.varTypes Try.prog) (ds ++ gs)).all (· ≤ reachBytes) = true := hsz0
  have hval : ∀ (j : Nat) t v, Try.f4.params[j]? = some t → args[j]? = some v → Value.okWide Try.prog W .any base t v := hval0
  have hW' := hW
  obtain ⟨p, q, hA0, hV, rfl, hfz, hnd⟩ := hW
  have hA : DataW.TrodAll enc Try.prog W 0 (fun _ => true) true Try.f4.params.toList args.toList ds p := hA0
  rw [Try.params4] at hA hval hsz
  obtain ⟨v0, vs0, d0, ds0, p0, q0, hargs, rfl, rfl, h0, r0⟩ := trodAll_cons hA
  obtain ⟨v1, vs1, d1, ds1, p1, q1, rfl, rfl, rfl, h1, r1⟩ := trodAll_cons r0
  obtain ⟨rfl, rfl, rfl⟩ := trodAll_nil r1
  obtain rfl : args = #[v0, v1] := by cases args; simp_all
  obtain ⟨rfl, rfl⟩ := trodVars_none hV
  have k0 := h0
  have lt0 : ∀ x ∈ p0, x.block < W.heap.size := by obtain ⟨m, hm⟩ := k0; exact DataW.trod_lt m _ _ _ hm
  obtain ⟨cs0, rfl⟩ := Go.Proofs.YtmjhfkjnnpnoaaaX.okWide_struct Try.underlying25 (hval 0 25 v0 rfl rfl)
  obtain ⟨x0, hK0, hG0, hm0⟩ := opn_arg opn25 h0 hsz (j := 0) (t := 25) rfl rfl
  obtain ⟨A0_3, c0_3, hcs0, hl0_3, hC0_3⟩ := k25_open hK0
  rcases cs0 with ⟨ls0⟩
  change ls0 = _ at hcs0
  subst hcs0
  obtain ⟨x1, rfl, rfl, rfl, hG1⟩ := open_int Try.underlying3 (hval 1 3 v1 rfl rfl) h1
  have hP := PU x0 x1 hG0 hG1
  clear hA0 hval0 hsz0 hsz
  obtain ⟨k, hk⟩ := hP
  refine (weftlaw6_IcmpFlipTold.calls k x0.f0 x0.f1 x0.f2 _ _ x0.f3 x1 true W hC0_3 hl0_3 hk).mono fun e W' hE => ?_
  obtain ⟨rfl, bel⟩ := hE
  exact ⟨_, rfl, _, _, _, [], _, [], hW', trodAll_mk1 (shut_bool Try.underlying4 _), (trodAll_cons_mk (Below.trod laidOut (by kernel_rfl) (of_decide_eq_true (by kernel_rfl)) k0 bel lt0) (trodAll_cons_mk (shut_int Try.underlying3 hG1) trodAll_mk0)), rfl, bel.frame _, fun h => by cases h⟩
theorem over (PU : Pure) : Rows.IcmpFlipToldSaid :=
  OpenClaim.holds_of_wide 4 Try.f4 rfl rfl rfl rfl rfl rfl rfl ⟨rfl, rfl, rfl, rfl, rfl⟩ rfl rfl rfl rfl rfl (by kernel_rfl) Try.func4 (by kernel_rfl)
    (of_decide_eq_true (by kernel_rfl)) (by unfold Func.isWrapper; first | (rw [if_pos (by decide +kernel)]; kernel_rfl) | (rw [if_neg (by decide +kernel)]; exact ⟨rfl, rfl⟩))
    (fun os started H enc _ => lifted PU os started H enc)
end Go.Proofs.Ytmjhfkjnnpnoaaa.XicmpFlipTold
