/- How a script of package weftlaw6 is read as an argument of this seat's rows.
   Conditions: none; every statement is proved here. -/
import Derived.Test.YtchdcdmdbjkihaaDoorSRowG
import Derived.Test.YtchdcdmdbjkihaaDoorSOp6
namespace Go.Proofs.YtchdcdmdbjkihaaDoorS
open Go Go.RowKit Go.Proofs Go.Proofs.YtchdcdmdbjkihaaDoorX Go.Proofs.YtchdcdmdbjkihaaDoor
set_option maxRecDepth 100000
set_option linter.unusedVariables false
set_option linter.unusedSectionVars false
set_option linter.unusedSimpArgs false
section
variable {H : Type}
abbrev KMsg {H : Type} : Rdr H := KAgg [(1, KInt .u8), (1, KInt .u8), (1, KInt .u32), (1, KBytes)]
theorem opn_msg : Opn (H := H) Tryd.prog 33 KMsg := opn_struct (tot := 4) Tryd.underlying33 (by kernel_rfl)
  (opnF_cons rfl (by kernel_rfl) (by decide) (opn_int (by kernel_rfl)) (opnF_cons rfl (by kernel_rfl) (by decide) (opn_int (by kernel_rfl)) (opnF_cons rfl (by kernel_rfl) (by decide) (opn_int (by kernel_rfl)) (opnF_cons rfl (by kernel_rfl) (by decide) opn_bytes opnF_nil))))
abbrev KOp {H : Type} : Rdr H := KAgg [(1, KInt .i64), (1, KBytes), (4, KMsg), (11, KPkt), (1, KInt .u8), (1, KInt .u8), (1, KInt .i64), (1, KInt .u32)]
theorem opn_op : Opn (H := H) Tryd.prog 41 KOp := opn_struct (tot := 21) Tryd.underlying41 (by kernel_rfl)
  (opnF_cons rfl (by kernel_rfl) (by decide) (opn_int (by kernel_rfl)) (opnF_cons rfl (by kernel_rfl) (by decide) opn_bytes (opnF_cons rfl (by kernel_rfl) (by decide) opn_msg (opnF_cons rfl (by kernel_rfl) (by decide) opn_pkt
  (opnF_cons rfl (by kernel_rfl) (by decide) (opn_int (by kernel_rfl)) (opnF_cons rfl (by kernel_rfl) (by decide) (opn_int (by kernel_rfl)) (opnF_cons rfl (by kernel_rfl) (by decide) (opn_int (by kernel_rfl)) (opnF_cons rfl (by kernel_rfl) (by decide) (opn_int (by kernel_rfl)) opnF_nil))))))))
theorem op_of {w : World} {cs : List Value} {d : DataW H} (h : KOp w cs d) (hb : Rows.uptoBulk d ≤ 1048576) : ∃ (o : Op6) (Z : Option Addr) (zn zc : Nat) (C : Option Addr) (cn cc : Nat) (A : Option Addr) (n c : Nat) (B : Option Addr) (m d : Nat),
    cs = ov o Z zn zc C cn cc A n c B m d ∧ o.Fine ∧ OpAt w o Z zn zc C cn cc A n c B m d ∧ o.Sm := by
  obtain ⟨ds, rfl, h⟩ := h
  obtain ⟨_, _, _, _, rfl, rfl, _, ⟨k, rfl, _, fk⟩, _, _, _, _, rfl, rfl, _, hz, _, _, _, _, rfl, rfl, _, ⟨dm, rfl, hm⟩, _, _, _, _, rfl, rfl, _, hp, _, _, _, _, rfl, rfl, _, ⟨t, rfl, _, ft⟩, _, _, _, _, rfl, rfl, _, ⟨cd, rfl, _, fc⟩, _, _, _, _, rfl, rfl, _, ⟨x, rfl, _, fx⟩, _, _, _, _, rfl, rfl, _, ⟨src, rfl, _, fs⟩, rfl, _⟩ := h
  obtain ⟨_, _, _, _, rfl, rfl, _, ⟨a0, rfl, _, f0⟩, _, _, _, _, rfl, rfl, _, ⟨a1, rfl, _, f1⟩, _, _, _, _, rfl, rfl, _, ⟨a2, rfl, _, f2⟩, _, _, _, _, rfl, rfl, _, hc, rfl, _⟩ := hm
  simp only [Rows.uptoBulk, Rows.uptoBulkAll] at hb
  obtain ⟨Z, zn, zc, b, rfl, z1, z2, z3, z4, z5⟩ := bytes_bulk hz
  obtain ⟨C, cn, cc, l, rfl, y1, y2, y3, y4, y5⟩ := bytes_bulk hc
  obtain ⟨p, A, n, c, B, m, e, rfl, pf, pa, p1, p2⟩ := pkt_of hp
  exact ⟨⟨k, b, ⟨a0, a1, a2, l⟩, p, t, cd, x, src⟩, Z, zn, zc, C, cn, cc, A, n, c, B, m, e, rfl, ⟨z2, ⟨wf_u8 f0, wf_u8 f1, wf_u32 f2, y2, y4⟩, pf, wf_u8 ft, wf_u8 fc, wf_u32 fs⟩, ⟨z1, z3, y1, pa⟩, ⟨by show b.length ≤ _; omega, by show l.length ≤ _; omega, by show p.opts.length ≤ _; omega, by show p.body.length ≤ _; omega⟩⟩
theorem opn_steps6 : Opn (H := H) Tryd.prog 22 (KSl 21 168 KOp) := opn_slice Tryd.underlying22 (by kernel_rfl) (by kernel_rfl) opn_op
theorem steps6_ofB {w : World} {A : Option Addr} {n c : Nat} {d : DataW H} (h : KSl 21 168 KOp w [.slice A n c] d) (hb : Rows.uptoBulk d ≤ 1048576) : ScrS w A n ∧ n ≤ 1048576 := by
  rcases h with ⟨e, rfl⟩ | ⟨a, len, cap, D, rest, e, rfl, hl, hD, hB, hel⟩
  · obtain ⟨rfl, rfl, rfl⟩ := slice_one e
    exact ⟨fun h => absurd h (Nat.lt_irrefl 0), Nat.zero_le _⟩
  · obtain ⟨rfl, rfl, rfl⟩ := slice_one e
    have hbl := bulk_len D
    simp only [Rows.uptoBulk] at hb
    refine ⟨fun _ => ⟨a, rfl, fun i hi => ?_⟩, by omega⟩
    obtain ⟨cs', x, hx0, hat, hx⟩ := hel i hi
    have hm := bulk_mem hx0
    obtain ⟨o, Z, zn, zc, C, cn, cc, A, n, c, B, m, d, rfl, hf, ho, hs⟩ := op_of hx (by omega)
    exact ⟨o, Z, zn, zc, C, cn, cc, A, n, c, B, m, d, hat, hf, ho, hs⟩
end
end Go.Proofs.YtchdcdmdbjkihaaDoorS
