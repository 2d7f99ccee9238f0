/- How an outer record is read as an argument of this seat's rows.
   Conditions: none; every statement is proved here. -/
import Derived.Test.YtphbdmafchjjeaaSRowF
import Derived.Test.YtphbdmafchjjeaaSTunS
namespace Go.Proofs.YtphbdmafchjjeaaS
open Go Go.RowKit Go.Proofs Go.Proofs.YtphbdmafchjjeaaX Go.Proofs.Ytphbdmafchjjeaa
set_option maxRecDepth 100000
set_option linter.unusedVariables false
set_option linter.unusedSectionVars false
set_option linter.unusedSimpArgs false
section
variable {H : Type}
abbrev KOuter {H : Type} : Rdr H := KAgg [(1, KInt .u32), (1, KInt .u32), (1, KInt .u16), (1, KInt .u16), (1, KInt .u8), (1, KInt .i64)]
theorem opn_outer : Opn (H := H) Try.prog 26 KOuter := opn_struct (tot := 6) Try.underlying26 (by kernel_rfl)
  (opnF_cons rfl (by kernel_rfl) (by decide) (opn_int (by kernel_rfl)) (opnF_cons rfl (by kernel_rfl) (by decide) (opn_int (by kernel_rfl)) (opnF_cons rfl (by kernel_rfl) (by decide) (opn_int (by kernel_rfl)) (opnF_cons rfl (by kernel_rfl) (by decide) (opn_int (by kernel_rfl))
  (opnF_cons rfl (by kernel_rfl) (by decide) (opn_int (by kernel_rfl)) (opnF_cons rfl (by kernel_rfl) (by decide) (opn_int (by kernel_rfl)) opnF_nil))))))
theorem outer_of {w : World} {cs : List Value} {d : DataW H} (h : KOuter w cs d) : ∃ (o : Ot) (_ : Unit) (_ : Unit) (_ : Unit), cs = ov o ∧ o.Fine := by
  obtain ⟨ds, rfl, h⟩ := h
  obtain ⟨_, _, _, _, rfl, rfl, _, ⟨a0, rfl, _, f0⟩, _, _, _, _, rfl, rfl, _, ⟨a1, rfl, _, f1⟩, _, _, _, _, rfl, rfl, _, ⟨a2, rfl, _, f2⟩, _, _, _, _, rfl, rfl, _, ⟨a3, rfl, _, f3⟩, _, _, _, _, rfl, rfl, _, ⟨a4, rfl, _, f4⟩, _, _, _, _, rfl, rfl, _, ⟨a5, rfl, _, f5⟩, rfl, _⟩ := h
  exact ⟨⟨a0, a1, a2, a3, a4, a5⟩, (), (), (), rfl, ⟨wf_u32 f0, wf_u32 f1, wf_u16 f2, wf_u16 f3, wf_u8 f4, wf_i64 f5⟩⟩
theorem outer_ofB {w : World} {cs : List Value} {d : DataW H} (h : KOuter w cs d) (hb : Rows.uptoBulk d ≤ 1048576) : ∃ (o : Ot) (_ : Unit) (_ : Unit) (_ : Unit), cs = ov o ∧ o.Fine := outer_of h
theorem bytes_ofB {w : World} {A : Option Addr} {n c : Nat} {d : DataW H} (h : KBytes w [.slice A n c] d) (hb : Rows.uptoBulk d ≤ 1048576) : ∃ b, By w A n b ∧ Bytes b ∧ n ≤ c ∧ n ≤ 1048576 := by
  obtain ⟨B, m, e, l, q, h1, h2, h3, h4, h5⟩ := bytes_bulk h
  obtain ⟨rfl, rfl, rfl⟩ := slice_one q
  exact ⟨l, h1, h2, h3, by rw [← h1.len]; omega⟩
end
end Go.Proofs.YtphbdmafchjjeaaS
