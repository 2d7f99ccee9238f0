-- printed by a program of this session (wip/xprint), out of the translation; Lean checks it
import Derived.Test.YtmjhfkjnnpnoaaaQIXV6x1
import Derived.Test.YtmjhfkjnnpnoaaaQIXOpen
import Derived.WalkKit
import Derived.ProofKit
import Derived.OpenShut
import Derived.ShutString
import Derived.ChangeOld
import Derived.Below
import Derived.SizedLaws
import Derived.JoinedCond
import Derived.Deep.CondSized
namespace Go.Proofs.Ytmjhfkjnnpnoaaa.Xip4Ages
open Go.RowKit Go.Proofs.Ytmjhfkjnnpnoaaa.XA Go.Proofs.Ytmjhfkjnnpnoaaa.XV6 Go.Proofs.YtmjhfkjnnpnoaaaW.PrintWords Go.Proofs.YtmjhfkjnnpnoaaaW.PrintLast Go.Proofs.YtmjhfkjnnpnoaaaW.PrintMore Go.Proofs.YtmjhfkjnnpnoaaaX
open Go.ChangeShapes Go.WideShapes Go.ChangeAt
set_option linter.unusedVariables false
/-- What is known of a value of this type; its measure. -/
def G31 (x : S31) : Prop := (Lit.int .u8 x.f0).wf = true ∧ (Lit.int .u16 x.f1).wf = true ∧ True ∧ True ∧ (Lit.int .i64 x.f4).wf = true ∧ (Lit.int .u8 x.f5).wf = true ∧ (Lit.int .u8 x.f6).wf = true ∧ (Lit.int .u32 x.f7).wf = true ∧ (Lit.int .u32 x.f8).wf = true ∧ (x.f9.length * 1 ≤ 140737488351232 ∧ ∀ e0 ∈ x.f9, ((Lit.int .u8 e0).wf = true))
def m31 (x : S31) : Nat := (1 + (1 + (1 + (1 + (1 + (1 + (1 + (1 + (1 + ((1 + sumOf (fun a => 1) x.f9))))))))))) + 1
instance : Inhabited S31 := ⟨z31⟩
theorem opn31 : Opn Try.prog 31 k31 G31 m31 := opn_iso (opn_struct (tot := 10) Try.underlying31 (by kernel_rfl) (opnF_cons rfl (by kernel_rfl) (opn_int (by kernel_rfl)) (opnF_cons rfl (by kernel_rfl) (opn_int (by kernel_rfl)) (opnF_cons rfl (by kernel_rfl) (opn_bool (by kernel_rfl)) (opnF_cons rfl (by kernel_rfl) (opn_bool (by kernel_rfl)) (opnF_cons rfl (by kernel_rfl) (opn_int (by kernel_rfl)) (opnF_cons rfl (by kernel_rfl) (opn_int (by kernel_rfl)) (opnF_cons rfl (by kernel_rfl) (opn_int (by kernel_rfl)) (opnF_cons rfl (by kernel_rfl) (opn_int (by kernel_rfl)) (opnF_cons rfl (by kernel_rfl) (opn_int (by kernel_rfl)) (opnF_last rfl (by kernel_rfl) (by kernel_rfl) (opn_slice (by kernel_rfl) (by kernel_rfl) (by kernel_rfl) (opn_int (by kernel_rfl)))))))))))))) _ (fun p => ⟨p.1, p.2.1, p.2.2.1, p.2.2.2.1, p.2.2.2.2.1, p.2.2.2.2.2.1, p.2.2.2.2.2.2.1, p.2.2.2.2.2.2.2.1, p.2.2.2.2.2.2.2.2.1, p.2.2.2.2.2.2.2.2.2⟩) (fun _ => rfl)
/-- What is known of a value of this type; its measure. -/
def G33 (x : S33) : Prop := G31 x.f0 ∧ (x.f1.length * 1 ≤ 140737488351232 ∧ ∀ e0 ∈ x.f1, ((Lit.int .u8 e0).wf = true))
def m33 (x : S33) : Nat := (m31 x.f0 + ((1 + sumOf (fun a => 1) x.f1))) + 1
instance : Inhabited S33 := ⟨z33⟩
theorem opn33 : Opn Try.prog 33 k33 G33 m33 := opn_iso (opn_struct (tot := 11) Try.underlying33 (by kernel_rfl) (opnF_cons rfl (by kernel_rfl) opn31 (opnF_last rfl (by kernel_rfl) (by kernel_rfl) (opn_slice (by kernel_rfl) (by kernel_rfl) (by kernel_rfl) (opn_int (by kernel_rfl)))))) _ (fun p => ⟨p.1, p.2⟩) (fun _ => rfl)
/-- What is known of a value of this type; its measure. -/
def G50 (x : S50) : Prop := (Lit.int .i64 x.f0).wf = true ∧ (x.f1.length * 1 ≤ 140737488351232 ∧ ∀ e0 ∈ x.f1, ((Lit.int .u8 e0).wf = true)) ∧ (x.f2.length * 24 ≤ 140737488351232 ∧ ∀ e0 ∈ x.f2, ((e0.length * 1 ≤ 140737488351232 ∧ ∀ e1 ∈ e0, ((Lit.int .u8 e1).wf = true)))) ∧ (Lit.int .u16 x.f3).wf = true ∧ (Lit.int .u16 x.f4).wf = true ∧ (Lit.int .u16 x.f5).wf = true ∧ G33 x.f6
def m50 (x : S50) : Nat := (1 + ((1 + sumOf (fun a => 1) x.f1) + ((1 + sumOf (fun a => (1 + sumOf (fun a => 1) a)) x.f2) + (1 + (1 + (1 + (m33 x.f6))))))) + 1
instance : Inhabited S50 := ⟨z50⟩
theorem opn50 : Opn Try.prog 50 k50 G50 m50 := opn_iso (opn_struct (tot := 17) Try.underlying50 (by kernel_rfl) (opnF_cons rfl (by kernel_rfl) (opn_int (by kernel_rfl)) (opnF_cons rfl (by kernel_rfl) (opn_slice (by kernel_rfl) (by kernel_rfl) (by kernel_rfl) (opn_int (by kernel_rfl))) (opnF_cons rfl (by kernel_rfl) (opn_slice (by kernel_rfl) (by kernel_rfl) (by kernel_rfl) (opn_slice (by kernel_rfl) (by kernel_rfl) (by kernel_rfl) (opn_int (by kernel_rfl)))) (opnF_cons rfl (by kernel_rfl) (opn_int (by kernel_rfl)) (opnF_cons rfl (by kernel_rfl) (opn_int (by kernel_rfl)) (opnF_cons rfl (by kernel_rfl) (opn_int (by kernel_rfl)) (opnF_last rfl (by kernel_rfl) (by kernel_rfl) opn33)))))))) _ (fun p => ⟨p.1, p.2.1, p.2.2.1, p.2.2.2.1, p.2.2.2.2.1, p.2.2.2.2.2.1, p.2.2.2.2.2.2⟩) (fun _ => rfl)
theorem opnA0 : Opn Try.prog 37 (Kd.slice 50 k50) (fun l => l.length * 144 ≤ 140737488351232 ∧ ∀ e0 ∈ l, G50 e0) (fun l => 1 + sumOf (fun a => m50 a) l) := (opn_slice (by kernel_rfl) (by kernel_rfl) (by kernel_rfl) opn50)
/-- THE ONE PURE STATEMENT. -/
def Pure : Prop := ∀ (x0 : List (S50)), (x0.length * 144 ≤ 140737488351232 ∧ ∀ e0 ∈ x0, G50 e0) → ∃ k, weftlaw3_Ip4Ages.f k x0 = some true
theorem own : ownKnob Try.prog.godebug = none := by kernel_rfl
theorem laidOut : laidOutB Try.prog = true := by kernel_rfl
set_option maxRecDepth 100000 in
set_option maxHeartbeats 2000000 in
theorem lifted (PU : Pure) (os : Os) (started : os.Started) (H : Type) (enc : TypeId × Value → H) :
    ReturnsInHanded {} Try.checked os 10 .any (Rows.ip4AgesSpec.pre6 enc Try.prog Try.f10 Rows.ip4AgesRow.domain false) (Rows.ip4AgesSpec.post enc Try.prog Try.f10 false true false false) := by
  refine returnsInHanded_of_change_sized (C := Try.checked) own started (by kernel_rfl) Try.func10
    (ChangeSpec.witness6 (enc := enc) (C := Try.checked) false ⟨#[], #[.slice none 0 0], []⟩ 8 (by kernel_rfl) (by kernel_rfl) (by kernel_rfl) (by kernel_rfl)) ?_
  intro W base args ds gs before hval0 hW hcnd hsz0 _
  have hsz : (DataW.weightsEach Try.prog (Try.f10.params.toList ++ Rows.ip4AgesSpec.plain.varTypes Try.prog) (ds ++ gs)).all (· ≤ reachBytes) = true := hsz0
  have hval : ∀ (j : Nat) t v, Try.f10.params[j]? = some t → args[j]? = some v → Value.okWide Try.prog W .any base t v := hval0
  have hW' := hW
  obtain ⟨p, q, hA0, hV, rfl, hfz, hnd⟩ := hW
  have hA : DataW.TrodAll enc Try.prog W 0 (fun _ => true) true Try.f10.params.toList args.toList ds p := hA0
  rw [Try.params10] at hA hval hsz
  obtain ⟨v0, vs0, d0, ds0, p0, q0, hargs, rfl, rfl, h0, r0⟩ := trodAll_cons hA
  obtain ⟨rfl, rfl, rfl⟩ := trodAll_nil r0
  obtain rfl : args = #[v0] := by cases args; simp_all
  obtain ⟨rfl, rfl⟩ := trodVars_none hV
  have k0 := h0
  have lt0 : ∀ x ∈ p0, x.block < W.heap.size := by obtain ⟨m, hm⟩ := k0; exact DataW.trod_lt m _ _ _ hm
  obtain ⟨a0, len0, cap0, rfl⟩ := okWide_slice Try.underlying37 (hval 0 37 v0 rfl rfl)
  obtain ⟨x0, hK0, hG0, hm0⟩ := opn_arg opnA0 h0 hsz (j := 0) (t := 37) rfl rfl
  obtain ⟨rfl, hl0, hC0⟩ := slice_of_K rfl hK0
  have hP := PU x0 hG0
  clear hA0 hval0 hsz0 hsz
  obtain ⟨k, hk⟩ := hP
  refine (weftlaw3_Ip4Ages.calls k _ _ x0 true W hC0 hl0 hk).mono fun e W' hE => ?_
  obtain ⟨rfl, bel⟩ := hE
  exact ⟨_, rfl, _, _, _, [], _, [], hW', trodAll_mk1 (shut_bool Try.underlying4 _), (trodAll_cons_mk (Below.trod laidOut (by kernel_rfl) (of_decide_eq_true (by kernel_rfl)) k0 bel lt0) trodAll_mk0), rfl, bel.frame _, fun h => by cases h⟩
theorem over (PU : Pure) : Rows.Ip4AgesSaid :=
  OpenClaim.holds_of_wide 10 Try.f10 rfl rfl rfl rfl rfl rfl rfl ⟨rfl, rfl, rfl, rfl, rfl⟩ rfl rfl rfl rfl rfl (by kernel_rfl) Try.func10 (by kernel_rfl)
    (of_decide_eq_true (by kernel_rfl)) (by unfold Func.isWrapper; first | (rw [if_pos (by decide +kernel)]; kernel_rfl) | (rw [if_neg (by decide +kernel)]; exact ⟨rfl, rfl⟩))
    (fun os started H enc _ => lifted PU os started H enc)
end Go.Proofs.Ytmjhfkjnnpnoaaa.Xip4Ages
