/- A message as an argument of this seat's rows.
   Conditions: none; every statement is proved here. -/
import Derived.Test.YtfjbpeadhaekbaaDoorSRowP
namespace Go.Proofs.YtfjbpeadhaekbaaDoorS
open Go Go.RowKit Go.Proofs Go.Proofs.YtfjbpeadhaekbaaDoorX Go.Proofs.YtfjbpeadhaekbaaDoor
set_option maxRecDepth 100000
set_option linter.unusedVariables false
abbrev KMsg {H : Type} : Rdr H := KAgg [(1, KInt .u8), (1, KInt .u8), (1, KInt .u32), (1, KBytes)]
theorem opn_msg {H : Type} : Opn (H := H) Tryd.prog 40 KMsg := opn_struct (tot := 4) Tryd.underlying40 (by kernel_rfl)
  (opnF_cons rfl (by kernel_rfl) (by decide) (opn_int (by kernel_rfl)) (opnF_cons rfl (by kernel_rfl) (by decide) (opn_int (by kernel_rfl)) (opnF_cons rfl (by kernel_rfl) (by decide) (opn_int (by kernel_rfl)) (opnF_cons rfl (by kernel_rfl) (by decide) opn_bytes opnF_nil))))
theorem msg_of {H : Type} {w : World} {cs : List Value} {d : DataW H} (h : KMsg w cs d) : ∃ (a0 a1 a2 : Int) (A : Option Addr) (n c : Nat) (l : List Int), cs = mv a0 a1 a2 A n c ∧ (0 ≤ a0 ∧ a0 ≤ 255) ∧ (0 ≤ a1 ∧ a1 ≤ 255) ∧ (0 ≤ a2 ∧ a2 ≤ 4294967295) ∧ By w A n l ∧ Bytes l ∧ n ≤ c ∧ l.length ≤ 140737488351232 := by
  obtain ⟨ds, rfl, h⟩ := h
  obtain ⟨_, _, _, _, rfl, _, _, ⟨a0, rfl, _, f0⟩, _, _, _, _, rfl, _, _, ⟨a1, rfl, _, f1⟩, _, _, _, _, rfl, _, _, ⟨a2, rfl, _, f2⟩, _, _, _, _, rfl, _, _, hb, rfl, _⟩ := h
  obtain ⟨A, n, c, l, rfl, h1, h2, h3, h4⟩ := bytes_of hb
  exact ⟨a0, a1, a2, A, n, c, l, rfl, wf_u8 f0, wf_u8 f1, wf_u32 f2, h1, h2, h3, h4⟩
end Go.Proofs.YtfjbpeadhaekbaaDoorS
