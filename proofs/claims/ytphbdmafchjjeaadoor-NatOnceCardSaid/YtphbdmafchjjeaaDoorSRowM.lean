/- How a script of package weftlaw23 is read as an argument of this seat's rows.
   Conditions: none; every statement is proved here. -/
import Derived.Test.YtphbdmafchjjeaaDoorSRowN
import Derived.Test.YtphbdmafchjjeaaDoorSNatR
namespace Go.Proofs.YtphbdmafchjjeaaDoorS
open Go Go.RowKit Go.Proofs Go.Proofs.YtphbdmafchjjeaaDoorX Go.Proofs.YtphbdmafchjjeaaDoor
set_option maxRecDepth 100000
set_option linter.unusedVariables false
set_option linter.unusedSectionVars false
set_option linter.unusedSimpArgs false
section
variable {H : Type}
abbrev KNOp {H : Type} : Rdr H := KAgg [(1, KInt .i64), (1, KBool), (11, KPkt), (5, KTp), (1, KInt .u32), (1, KInt .u32), (1, KSl 2 8 KBk), (1, KInt .u8), (1, KInt .u16)]
theorem opn_nop : Opn (H := H) Tryd.prog 47 KNOp := opn_struct (tot := 23) Tryd.underlying47 (by kernel_rfl)
  (opnF_cons rfl (by kernel_rfl) (by decide) (opn_int (by kernel_rfl)) (opnF_cons rfl (by kernel_rfl) (by decide) (opn_bool (by kernel_rfl)) (opnF_cons rfl (by kernel_rfl) (by decide) opn_pkt (opnF_cons rfl (by kernel_rfl) (by decide) opn_tp
  (opnF_cons rfl (by kernel_rfl) (by decide) (opn_int (by kernel_rfl)) (opnF_cons rfl (by kernel_rfl) (by decide) (opn_int (by kernel_rfl)) (opnF_cons rfl (by kernel_rfl) (by decide) opn_backs (opnF_cons rfl (by kernel_rfl) (by decide) (opn_int (by kernel_rfl))
  (opnF_cons rfl (by kernel_rfl) (by decide) (opn_int (by kernel_rfl)) opnF_nil)))))))))
theorem sl_shape {w : World} {cs : List Value} {d : DataW H} (h : KSl 2 8 KBk w cs d) : ∃ A n c, cs = [.slice A n c] := by
  rcases h with ⟨rfl, _⟩ | ⟨a, len, cap, D, rest, rfl, _⟩
  · exact ⟨_, _, _, rfl⟩
  · exact ⟨_, _, _, rfl⟩
theorem nop_of {w : World} {cs : List Value} {d : DataW H} (h : KNOp w cs d) : ∃ o : NOp, cs = nov o ∧ o.pt ≤ 65535 := by
  obtain ⟨ds, rfl, h⟩ := h
  obtain ⟨_, _, _, _, rfl, rfl, _, ⟨k, rfl, _, fk⟩, _, _, _, _, rfl, rfl, _, ⟨on, rfl, _⟩, _, _, _, _, rfl, rfl, _, hp, _, _, _, _, rfl, rfl, _, ht, _, _, _, _, rfl, rfl, _, ⟨s, rfl, _, fs⟩, _, _, _, _, rfl, rfl, _, ⟨e, rfl, _, fe⟩,
    _, _, _, _, rfl, rfl, _, hl, _, _, _, _, rfl, rfl, _, ⟨pr, rfl, _, fp⟩, _, _, _, _, rfl, rfl, _, ⟨pt, rfl, _, ft⟩, rfl, _⟩ := h
  obtain ⟨p, A, n, c, B, m, d, rfl, _⟩ := pkt_of hp
  obtain ⟨t, rfl, _⟩ := tp_of ht
  obtain ⟨L, ln, lc, rfl⟩ := sl_shape hl
  have hpt := wf_u16 ft
  obtain ⟨pt, rfl⟩ := Int.eq_ofNat_of_zero_le hpt.1
  exact ⟨⟨k, on, p, A, n, c, B, m, d, t, s, e, L, ln, lc, pr, pt⟩, rfl, by show pt ≤ 65535; omega⟩
theorem opn_nops : Opn (H := H) Tryd.prog 35 (KSl 23 152 KNOp) := opn_slice Tryd.underlying35 (by kernel_rfl) (by kernel_rfl) opn_nop
theorem nops_ofP {w : World} {A : Option Addr} {n c : Nat} {d : DataW H} (h : KSl 23 152 KNOp w [.slice A n c] d) : NScr w A n ∧ n ≤ 1000000000000 := by
  rcases h with ⟨e, rfl⟩ | ⟨a, len, cap, D, rest, e, rfl, hl, hD, hB, hel⟩
  · obtain ⟨rfl, rfl, rfl⟩ := slice_one e
    exact ⟨fun h => by omega, by omega⟩
  · obtain ⟨rfl, rfl, rfl⟩ := slice_one e
    refine ⟨fun _ => ⟨a, rfl, fun i hi => ?_⟩, by omega⟩
    obtain ⟨cs', x, hx0, hat, hx⟩ := hel i hi
    obtain ⟨o, rfl, hf⟩ := nop_of hx
    exact ⟨o, hat, hf⟩
theorem nops_ofB {w : World} {A : Option Addr} {n c : Nat} {d : DataW H} (h : KSl 23 152 KNOp w [.slice A n c] d) (hb : Rows.uptoBulk d ≤ 1048576) : NScr w A n ∧ n ≤ 1000000000000 := nops_ofP h
end
end Go.Proofs.YtphbdmafchjjeaaDoorS
