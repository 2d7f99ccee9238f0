/- How a script is read as an argument of this seat's rows.
   Conditions: none; every statement is proved here. -/
import Derived.Test.YtleelkkddjldnaaSRowO
import Derived.Test.YtleelkkddjldnaaSTScrG
namespace Go.Proofs.YtleelkkddjldnaaS
open Go Go.RowKit Go.Proofs Go.Proofs.YtleelkkddjldnaaX Go.Proofs.Ytleelkkddjldnaa
set_option maxRecDepth 100000
set_option linter.unusedVariables false
set_option linter.unusedSectionVars false
set_option linter.unusedSimpArgs false
section
variable {H : Type}
abbrev KOp {H : Type} : Rdr H := KAgg [(1, KInt .i64), (6, KOuter), (14, KFrame), (7, KItem), (1, KBytes), (1, KInt .i64)]
theorem opn_op : Opn (H := H) Try.prog 76 KOp := opn_struct (tot := 30) Try.underlying76 (by kernel_rfl)
  (opnF_cons rfl (by kernel_rfl) (by decide) (opn_int (by kernel_rfl)) (opnF_cons rfl (by kernel_rfl) (by decide) opn_outer (opnF_cons rfl (by kernel_rfl) (by decide) opn_frame (opnF_cons rfl (by kernel_rfl) (by decide) opn_item
  (opnF_cons rfl (by kernel_rfl) (by decide) opn_bytes (opnF_cons rfl (by kernel_rfl) (by decide) (opn_int (by kernel_rfl)) opnF_nil))))))
theorem op_of {w : World} {cs : List Value} {d : DataW H} (h : KOp w cs d) (hb : Rows.uptoBulk d ≤ 1048576) : OpAt w cs := by
  obtain ⟨ds, rfl, h⟩ := h
  obtain ⟨_, _, _, _, rfl, rfl, _, ⟨a0, rfl, _, f0⟩, _, _, _, _, rfl, rfl, _, ho, _, _, _, _, rfl, rfl, _, hf, _, _, _, _, rfl, rfl, _, hi, _, _, _, _, rfl, rfl, _, hr, _, _, _, _, rfl, rfl, _, ⟨a1, rfl, _, f1⟩, rfl, _⟩ := h
  simp only [Rows.uptoBulk, Rows.uptoBulkAll] at hb
  obtain ⟨o, _, _, _, rfl, o1⟩ := outer_of ho
  obtain ⟨f, A, n, c, rfl, k1, k2, k3, k4⟩ := fr_of hf
  obtain ⟨x, B, m, e, C, p, q, rfl, x1, x2⟩ := item_of hi (by omega)
  obtain ⟨D, r, s, raw, rfl, r1, r2, r3, r4, r5⟩ := bytes_bulk hr
  exact ⟨⟨a0, o, f, A, n, c, x, B, m, e, C, p, q, D, r, s, a1, raw, rfl, o1, k1, k2, k3, by rw [← k2.len]; omega, x1, x2, r1, r2, r3, by rw [← r1.len]; omega, wf_i64 f1⟩⟩
theorem opn_script : Opn (H := H) Try.prog 70 (KSl 30 176 KOp) := opn_slice Try.underlying70 (by kernel_rfl) (by kernel_rfl) opn_op
theorem script_ofB {w : World} {A : Option Addr} {n c : Nat} {d : DataW H} (h : KSl 30 176 KOp w [.slice A n c] d) (hb : Rows.uptoBulk d ≤ 1048576) : Ops w A n ∧ n ≤ 1000000000000 := by
  rcases h with ⟨e, rfl⟩ | ⟨a, len, cap, D, rest, e, rfl, hl, hD, hB, hel⟩
  · obtain ⟨rfl, rfl, rfl⟩ := slice_one e
    exact ⟨fun h => by omega, by omega⟩
  · obtain ⟨rfl, rfl, rfl⟩ := slice_one e
    have hbl := bulk_len D
    simp only [Rows.uptoBulk] at hb
    refine ⟨fun _ => ⟨a, rfl, fun i hi => ?_⟩, by omega⟩
    obtain ⟨cs', x, hx0, hat, hx⟩ := hel i hi
    have hm := bulk_mem hx0
    exact ⟨cs', hat, op_of hx (by omega)⟩
end
end Go.Proofs.YtleelkkddjldnaaS
