/- TunnelSums: the row.
   Conditions: those of the given row. -/
import Derived.Test.YtleelkkddjldnaaSRowT
import Derived.Test.YtleelkkddjldnaaSTSum
import Derived.WalkKit
import Derived.ProofKit
import Derived.OpenShut
import Derived.ShutString
import Derived.ChangeOld
import Derived.Below
import Derived.SizedLaws
import Derived.JoinedCond
import Derived.Deep.CondSized
namespace Go.Proofs.YtleelkkddjldnaaS
open Go Go.RowKit Go.Proofs Go.Proofs.YtleelkkddjldnaaX Go.Proofs.Ytleelkkddjldnaa
open Go.ChangeShapes Go.WideShapes Go.ChangeAt
set_option linter.unusedVariables false
set_option maxRecDepth 100000 in
set_option maxHeartbeats 2000000 in
theorem tunnelSums_lifted (os : Os) (started : os.Started) (H : Type) (enc : TypeId × Value → H) :
    ReturnsInHanded {} Try.checked os 4 .any (Rows.tunnelSumsSpec.pre6 enc Try.prog Try.f4 Rows.tunnelSumsRow.domain false) (Rows.tunnelSumsSpec.post enc Try.prog Try.f4 false true false false) := by
  refine returnsInHanded_of_change_sized (C := Try.checked) own_ started (by kernel_rfl) Try.func4
    (ChangeSpec.witness6 (enc := enc) (C := Try.checked) false ⟨#[], #[.int .u32 0, .int .u32 0, .agg (dv 0 0 none 0 0).toArray, .int .i64 0, .int .i64 0], []⟩ 8 (by kernel_rfl) (by kernel_rfl) (by kernel_rfl) (by kernel_rfl)) ?_
  intro W base args ds gs before hval0 hW hcnd hsz0 _
  have hsz : (DataW.weightsEach Try.prog (Try.f4.params.toList ++ Rows.tunnelSumsSpec.plain.varTypes Try.prog) (ds ++ gs)).all (· ≤ reachBytes) = true := hsz0
  have hval : ∀ (j : Nat) t v, Try.f4.params[j]? = some t → args[j]? = some v → Value.okWide Try.prog W .any base t v := hval0
  have hW' := hW
  obtain ⟨p, q, hA0, hV, rfl, hfz, hnd⟩ := hW
  have hA : DataW.TrodAll enc Try.prog W 0 (fun _ => true) true Try.f4.params.toList args.toList ds p := hA0
  rw [Try.params4] at hA hval hsz
  obtain ⟨v0, vs0, d0, ds0, p0, q0, hargs, rfl, rfl, h0, r0⟩ := trodAll_cons hA
  obtain ⟨v1, vs1, d1, ds1, p1, q1, rfl, rfl, rfl, h1, r1⟩ := trodAll_cons r0
  obtain ⟨v2, vs2, d2, ds2, p2, q2, rfl, rfl, rfl, h2, r2⟩ := trodAll_cons r1
  obtain ⟨v3, vs3, d3, ds3, p3, q3, rfl, rfl, rfl, h3, r3⟩ := trodAll_cons r2
  obtain ⟨v4, vs4, d4, ds4, p4, q4, rfl, rfl, rfl, h4, r4⟩ := trodAll_cons r3
  obtain ⟨rfl, rfl, rfl⟩ := trodAll_nil r4
  obtain rfl : args = #[v0, v1, v2, v3, v4] := by cases args; simp_all
  obtain ⟨rfl, rfl⟩ := trodVars_none hV
  obtain ⟨x0, rfl, rfl, rfl, hG0⟩ := open_int (k := .u32) (by kernel_rfl) (hval 0 26 v0 rfl rfl) h0
  obtain ⟨x1, rfl, rfl, rfl, hG1⟩ := open_int (k := .u32) (by kernel_rfl) (hval 1 26 v1 rfl rfl) h1
  have k2 := h2
  have lt2 : ∀ x ∈ p2, x.block < W.heap.size := by obtain ⟨m, hm⟩ := k2; exact DataW.trod_lt m _ _ _ hm
  obtain ⟨cs2, rfl⟩ := okWide_struct Try.underlying30 (hval 2 30 v2 rfl rfl)
  obtain ⟨z2, A2, n2, c2, hcs2, hS2⟩ := dgram_of (opn_arg opn_dgram h2 hsz (j := 2) (t := 30) rfl rfl)
  rcases cs2 with ⟨ls2⟩
  change ls2 = _ at hcs2
  subst hcs2
  obtain ⟨x3, rfl, rfl, rfl, hG3⟩ := open_int (k := .i64) (by kernel_rfl) (hval 3 3 v3 rfl rfl) h3
  obtain ⟨x4, rfl, rfl, rfl, hG4⟩ := open_int (k := .i64) (by kernel_rfl) (hval 4 3 v4 rfl rfl) h4
  clear hA0 hval0 hsz0 hsz
  refine (TunnelSums_t (wf_u32 hG0) (wf_u32 hG1) hS2 (wf_i64 hG3) (wf_i64 hG4)).mono fun e W' hE => ?_
  obtain ⟨rfl, bel⟩ := hE
  exact ⟨_, rfl, _, _, _, [], _, [], hW', trodAll_mk1 (shut_bool Try.underlying4 _), (trodAll_cons_mk (shut_int (k := .u32) (by kernel_rfl) hG0) (trodAll_cons_mk (shut_int (k := .u32) (by kernel_rfl) hG1) (trodAll_cons_mk (Below.trod laidOut_ (by kernel_rfl) (of_decide_eq_true (by kernel_rfl)) k2 bel lt2) (trodAll_cons_mk (shut_int (k := .i64) (by kernel_rfl) hG3) (trodAll_cons_mk (shut_int (k := .i64) (by kernel_rfl) hG4) trodAll_mk0))))), rfl, bel.frame _, fun h => by cases h⟩
end Go.Proofs.YtleelkkddjldnaaS
namespace Go.Proofs.Ytleelkkddjldnaa
open Go Go.RowKit Go.Proofs Go.Proofs.YtleelkkddjldnaaS
theorem tunnelSums_holds : Rows.TunnelSumsSaid :=
  OpenClaim.holds_of_wide 4 Try.f4 rfl rfl rfl rfl rfl rfl rfl ⟨rfl, rfl, rfl, rfl, rfl⟩ rfl rfl rfl rfl rfl (by kernel_rfl) Try.func4 (by kernel_rfl)
    (of_decide_eq_true (by kernel_rfl)) (by unfold Func.isWrapper; first | (rw [if_pos (by decide +kernel)]; kernel_rfl) | (rw [if_neg (by decide +kernel)]; exact ⟨rfl, rfl⟩))
    (fun os started H enc _ => tunnelSums_lifted os started H enc)
end Go.Proofs.Ytleelkkddjldnaa
