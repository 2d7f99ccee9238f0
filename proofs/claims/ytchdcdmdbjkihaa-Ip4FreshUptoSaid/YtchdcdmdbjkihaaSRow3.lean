/- How a script of package weftlaw3 is read as an argument of this seat's rows.
   Conditions: none; every statement is proved here. -/
import Derived.Test.YtchdcdmdbjkihaaSRowB
import Derived.Test.YtchdcdmdbjkihaaSL3A
namespace Go.Proofs.YtchdcdmdbjkihaaS
open Go Go.RowKit Go.Proofs Go.Proofs.YtchdcdmdbjkihaaX Go.Proofs.Ytchdcdmdbjkihaa
set_option maxRecDepth 100000
set_option linter.unusedVariables false
set_option linter.unusedSectionVars false
set_option linter.unusedSimpArgs false
section
variable {H : Type}
abbrev KOp {H : Type} : Rdr H := KAgg [(1, KInt .i64), (1, KBytes), (1, KRaws), (1, KInt .u16), (1, KInt .u16), (1, KInt .u16), (11, KPkt)]
theorem opn_op : Opn (H := H) Try.prog 39 KOp := opn_struct (tot := 17) Try.underlying39 (by kernel_rfl)
  (opnF_cons rfl (by kernel_rfl) (by decide) (opn_int (by kernel_rfl)) (opnF_cons rfl (by kernel_rfl) (by decide) opn_bytes (opnF_cons rfl (by kernel_rfl) (by decide) opn_raws (opnF_cons rfl (by kernel_rfl) (by decide) (opn_int (by kernel_rfl))
  (opnF_cons rfl (by kernel_rfl) (by decide) (opn_int (by kernel_rfl)) (opnF_cons rfl (by kernel_rfl) (by decide) (opn_int (by kernel_rfl)) (opnF_cons rfl (by kernel_rfl) (by decide) opn_pkt opnF_nil)))))))
theorem op_of {w : World} {cs : List Value} {d : DataW H} (h : KOp w cs d) (hb : Rows.uptoBulk d ≤ 1048576) : ∃ (o : Op3) (Z : Option Addr) (zn zc : Nat) (Y : Option Addr) (yn yc : Nat) (A : Option Addr) (n c : Nat) (B : Option Addr) (m d : Nat),
    cs = opv o Z zn zc Y yn yc A n c B m d ∧ o.Fine ∧ OpAt w o Z zn zc Y yn yc A n c B m d ∧ o.p.opts.length ≤ 1000000000 ∧ o.p.body.length ≤ 1000000000 := by
  obtain ⟨ds, rfl, h⟩ := h
  obtain ⟨_, _, _, _, rfl, rfl, _, ⟨k, rfl, _, fk⟩, _, _, _, _, rfl, rfl, _, hz, _, _, _, _, rfl, rfl, _, hy, _, _, _, _, rfl, rfl, _, ⟨x, rfl, _, fx⟩, _, _, _, _, rfl, rfl, _, ⟨y, rfl, _, fy⟩, _, _, _, _, rfl, rfl, _, ⟨z, rfl, _, fz⟩, _, _, _, _, rfl, rfl, _, hp, rfl, _⟩ := h
  simp only [Rows.uptoBulk, Rows.uptoBulkAll] at hb
  obtain ⟨Z, zn, zc, b, rfl, z1, z2, z3, z4, z5⟩ := bytes_bulk hz
  obtain ⟨Y, yn, yc, ps, rfl, y1, y2, y3, y4⟩ := raws_bulk hy
  obtain ⟨p, A, n, c, B, m, e, rfl, pf, pa, p1, p2⟩ := pkt_of hp
  exact ⟨⟨k, b, ps, x, y, z, p⟩, Z, zn, zc, Y, yn, yc, A, n, c, B, m, e, rfl, ⟨z2, by show b.length ≤ _; omega, y2, by show ps.flatten.length ≤ _; omega, by show ps.length ≤ _; omega, wf_u16 fx, wf_u16 fy, wf_u16 fz, pf⟩, ⟨z1, z3, y1, pa⟩, by show p.opts.length ≤ _; omega, by show p.body.length ≤ _; omega⟩
theorem opn_steps3 : Opn (H := H) Try.prog 22 (KSl 17 144 KOp) := opn_slice Try.underlying22 (by kernel_rfl) (by kernel_rfl) opn_op
theorem steps3_ofB {w : World} {A : Option Addr} {n c : Nat} {d : DataW H} (h : KSl 17 144 KOp w [.slice A n c] d) (hb : Rows.uptoBulk d ≤ 1048576) : Scr w A n ∧ n ≤ 1000000000000 := by
  rcases h with ⟨e, rfl⟩ | ⟨a, len, cap, D, rest, e, rfl, hl, hD, hB, hel⟩
  · obtain ⟨rfl, rfl, rfl⟩ := slice_one e
    exact ⟨fun h => by omega, by omega⟩
  · obtain ⟨rfl, rfl, rfl⟩ := slice_one e
    have hbl := bulk_len D
    simp only [Rows.uptoBulk] at hb
    refine ⟨fun _ => ⟨a, rfl, fun i hi => ?_⟩, by omega⟩
    obtain ⟨cs', x, hx0, hat, hx⟩ := hel i hi
    have hm := bulk_mem hx0
    obtain ⟨o, Z, zn, zc, Y, yn, yc, A, n, c, B, m, d, rfl, hf, ho, _⟩ := op_of hx (by omega)
    exact ⟨o, Z, zn, zc, Y, yn, yc, A, n, c, B, m, d, hat, hf, ho⟩
theorem opn_steps3s : Opn (H := H) Try.prog 22 (KSl 17 144 KOp) := opn_steps3
theorem steps3s_ofB {w : World} {A : Option Addr} {n c : Nat} {d : DataW H} (h : KSl 17 144 KOp w [.slice A n c] d) (hb : Rows.uptoBulk d ≤ 1048576) : (Scr w A n ∧ ScrS w A n) ∧ n ≤ 1048576 := by
  refine ⟨⟨(steps3_ofB h hb).1, ?_⟩, ?_⟩
  all_goals
    rcases h with ⟨e, rfl⟩ | ⟨a, len, cap, D, rest, e, rfl, hl, hD, hB, hel⟩
    · obtain ⟨rfl, rfl, rfl⟩ := slice_one e
      first | exact fun h => absurd h (Nat.lt_irrefl 0) | exact Nat.zero_le _
    · obtain ⟨rfl, rfl, rfl⟩ := slice_one e
      have hbl := bulk_len D
      simp only [Rows.uptoBulk] at hb
      first
      | omega
      | refine fun _ => ⟨a, rfl, fun i hi => ?_⟩
        obtain ⟨cs', x, hx0, hat, hx⟩ := hel i hi
        have hm := bulk_mem hx0
        obtain ⟨o, Z, zn, zc, Y, yn, yc, A, n, c, B, m, d, rfl, hf, ho, hs⟩ := op_of hx (by omega)
        exact ⟨o, Z, zn, zc, Y, yn, yc, A, n, c, B, m, d, hat, hf, ho, hs⟩
end
end Go.Proofs.YtchdcdmdbjkihaaS
