/- A script as an argument of this seat's rows.
   Conditions: none; every statement is proved here. -/
import Derived.Test.YtfjbpeadhaekbaaDoorSRowQ
import Derived.Test.YtfjbpeadhaekbaaDoorSLawD
namespace Go.Proofs.YtfjbpeadhaekbaaDoorS
open Go Go.RowKit Go.Proofs Go.Proofs.YtfjbpeadhaekbaaDoorX Go.Proofs.YtfjbpeadhaekbaaDoor
set_option maxRecDepth 100000
set_option linter.unusedVariables false
abbrev KOp {H : Type} : Rdr H := KAgg [(1, KInt .i64), (1, KBytes), (4, KMsg), (11, KPkt), (1, KInt .u8), (1, KInt .u8), (1, KInt .i64), (1, KInt .u32)]
theorem opn_op {H : Type} : Opn (H := H) Tryd.prog 50 KOp := opn_struct (tot := 21) Tryd.underlying50 (by kernel_rfl)
  (opnF_cons rfl (by kernel_rfl) (by decide) (opn_int (by kernel_rfl)) (opnF_cons rfl (by kernel_rfl) (by decide) opn_bytes (opnF_cons rfl (by kernel_rfl) (by decide) opn_msg (opnF_cons rfl (by kernel_rfl) (by decide) opn_pkt
  (opnF_cons rfl (by kernel_rfl) (by decide) (opn_int (by kernel_rfl)) (opnF_cons rfl (by kernel_rfl) (by decide) (opn_int (by kernel_rfl)) (opnF_cons rfl (by kernel_rfl) (by decide) (opn_int (by kernel_rfl)) (opnF_cons rfl (by kernel_rfl) (by decide) (opn_int (by kernel_rfl)) opnF_nil))))))))
theorem opn_script {H : Type} : Opn (H := H) Tryd.prog 36 (KSl 21 168 KOp) := opn_slice Tryd.underlying36 (by kernel_rfl) (by kernel_rfl) opn_op
theorem op_of {H : Type} {w : World} {cs : List Value} {d : DataW H} (h : KOp w cs d) : ∃ (o : Op6) (Z : Option Addr) (zn zc : Nat) (C : Option Addr) (cn cc : Nat) (A : Option Addr) (n c : Nat) (B : Option Addr) (m d : Nat),
    cs = ov o Z zn zc C cn cc A n c B m d ∧ o.Fine ∧ OpAt w o Z zn zc C cn cc A n c B m d := by
  obtain ⟨ds, rfl, h⟩ := h
  obtain ⟨_, _, _, _, rfl, _, _, ⟨k, rfl, _, fk⟩, _, _, _, _, rfl, _, _, hb, _, _, _, _, rfl, _, _, hm, _, _, _, _, rfl, _, _, hp, _, _, _, _, rfl, _, _, ⟨t, rfl, _, ft⟩, _, _, _, _, rfl, _, _, ⟨cd, rfl, _, fc⟩, _, _, _, _, rfl, _, _, ⟨x, rfl, _, fx⟩, _, _, _, _, rfl, _, _, ⟨src, rfl, _, fs⟩, rfl, _⟩ := h
  obtain ⟨Z, zn, zc, b, rfl, y1, y2, y3, y4⟩ := bytes_of hb
  obtain ⟨a0, a1, a2, C, cn, cc, l, rfl, m0, m1, m2, m3, m4, m5, m6⟩ := msg_of hm
  obtain ⟨p, A, n, c, B, m, e, rfl, pf, pa⟩ := pkt_of hp
  exact ⟨⟨k, b, ⟨a0, a1, a2, l⟩, p, t, cd, x, src⟩, Z, zn, zc, C, cn, cc, A, n, c, B, m, e, rfl, ⟨y2, ⟨m0, m1, m2, m4, m6⟩, pf, wf_u8 ft, wf_u8 fc, wf_u32 fs⟩, ⟨y1, y3, m3, pa⟩⟩
theorem script_of {H : Type} {w : World} {A : Option Addr} {n c : Nat} {d : DataW H} (h : KSl 21 168 KOp w [.slice A n c] d) : Scr w A n ∧ n ≤ 1000000000000000 := by
  rcases h with ⟨e, rfl⟩ | ⟨a, len, cap, D, rest, e, rfl, hl, hD, hB, hel⟩
  · injection e with e _
    injection e with e1 e2 e3
    subst e2
    exact ⟨fun h => by omega, by omega⟩
  · injection e with e _
    injection e with e1 e2 e3
    subst e1 e2 e3
    refine ⟨fun _ => ⟨a, rfl, fun i hi => ?_⟩, by omega⟩
    obtain ⟨cs', x, _, hat, hx⟩ := hel i hi
    obtain ⟨o, Z, zn, zc, C, cn, cc, A, n, c, B, m, d, rfl, hf, ho⟩ := op_of hx
    exact ⟨o, Z, zn, zc, C, cn, cc, A, n, c, B, m, d, hat, hf, ho⟩
end Go.Proofs.YtfjbpeadhaekbaaDoorS
