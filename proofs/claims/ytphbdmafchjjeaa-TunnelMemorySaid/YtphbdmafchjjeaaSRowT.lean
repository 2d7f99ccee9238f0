/- How the arguments of this seat's rows are read; what their bulk bounds.
   Conditions: none; every statement is proved here. -/
import Derived.Test.YtphbdmafchjjeaaSRow
import Derived.Test.YtphbdmafchjjeaaSTLaw
import Derived.Test.YtphbdmafchjjeaaRows
import Derived.ProofKit
namespace Go.Proofs.YtphbdmafchjjeaaS
open Go Go.RowKit Go.Proofs Go.Proofs.YtphbdmafchjjeaaX Go.Proofs.Ytphbdmafchjjeaa
set_option maxRecDepth 100000
set_option linter.unusedVariables false
set_option linter.unusedSimpArgs false

theorem own_ : ownKnob Try.prog.godebug = none := by kernel_rfl
theorem laidOut_ : laidOutB Try.prog = true := by kernel_rfl

/-! ### bulk -/
section
variable {H : Type}
theorem bulk_pos (d : DataW H) : 1 ≤ Rows.uptoBulk d := by
  cases d with
  | lit l => cases l <;> simp [Rows.uptoBulk]
  | _ => simp [Rows.uptoBulk]
theorem bulk_mem : ∀ {D : List (DataW H)} {i : Nat} {x : DataW H}, D[i]? = some x → Rows.uptoBulk x ≤ Rows.uptoBulkAll D
  | [], i, x, h => by simp at h
  | d :: r, 0, x, h => by
    simp only [List.getElem?_cons_zero, Option.some.injEq] at h
    subst h
    simp only [Rows.uptoBulkAll]
    omega
  | d :: r, i + 1, x, h => by
    simp only [List.getElem?_cons_succ] at h
    have := bulk_mem h
    simp only [Rows.uptoBulkAll]
    omega
theorem bulk_len : ∀ (D : List (DataW H)), D.length ≤ Rows.uptoBulkAll D
  | [] => by simp
  | d :: r => by
    have h1 := bulk_pos d
    have h2 := bulk_len r
    simp only [Rows.uptoBulkAll, List.length_cons]
    omega
abbrev KBytes {H : Type} : Rdr H := KSl 1 1 (KInt .u8)
theorem opn_bytes : Opn (H := H) Try.prog 29 KBytes := opn_slice Try.underlying29 (by kernel_rfl) (by kernel_rfl) (opn_int (by kernel_rfl))
/-- A list of bytes, and its length by its datum's bulk. -/
theorem bytes_bulk {w : World} {cs : List Value} {d : DataW H} (h : KBytes w cs d) : ∃ A n c l, cs = [.slice A n c] ∧ By w A n l ∧ Bytes l ∧ n ≤ c ∧ l.length ≤ 140737488351232 ∧ l.length ≤ Rows.uptoBulk d := by
  have hb : ∀ {A : Option Addr} {n c : Nat}, cs = [.slice A n c] → n ≤ Rows.uptoBulk d := by
    intro A n c e
    rcases h with ⟨e2, rfl⟩ | ⟨a, len, cap, D, rest, e2, rfl, hl, hD, hB, hel⟩
    · rw [e2] at e
      injection e with e _
      injection e with _ e _
      omega
    · rw [e2] at e
      injection e with e _
      injection e with _ e _
      have := bulk_len D
      simp only [Rows.uptoBulk]
      omega
  obtain ⟨A, n, c, l, e, h1, h2, h3, h4⟩ := bytes_of h
  exact ⟨A, n, c, l, e, h1, h2, h3, h4, by rw [h1.len]; exact hb e⟩
theorem slice_one {A B : Option Addr} {n c m d : Nat} (h : [Value.slice A n c] = [Value.slice B m d]) : A = B ∧ n = m ∧ c = d := by
  injection h with h _
  injection h with h1 h2 h3
  exact ⟨h1, h2, h3⟩

/-! ### datagrams -/
abbrev KDg {H : Type} : Rdr H := KAgg [(1, KInt .u16), (1, KInt .u16), (1, KBytes)]
theorem opn_dgram : Opn (H := H) Try.prog 33 KDg := opn_struct (tot := 3) Try.underlying33 (by kernel_rfl)
  (opnF_cons rfl (by kernel_rfl) (by decide) (opn_int (by kernel_rfl)) (opnF_cons rfl (by kernel_rfl) (by decide) (opn_int (by kernel_rfl)) (opnF_cons rfl (by kernel_rfl) (by decide) opn_bytes opnF_nil)))
theorem dg_of {w : World} {cs : List Value} {d : DataW H} (h : KDg w cs d) : ∃ (sp dp : Int) (A : Option Addr) (n c : Nat) (l : List Int), cs = dv sp dp A n c ∧ (0 ≤ sp ∧ sp ≤ 65535) ∧ (0 ≤ dp ∧ dp ≤ 65535) ∧ By w A n l ∧ Bytes l ∧ n ≤ c ∧ l.length ≤ 140737488351232 ∧ l.length ≤ Rows.uptoBulk d := by
  obtain ⟨ds, rfl, h⟩ := h
  obtain ⟨_, _, _, _, rfl, rfl, _, ⟨a0, rfl, _, f0⟩, _, _, _, _, rfl, rfl, _, ⟨a1, rfl, _, f1⟩, _, _, _, _, rfl, rfl, _, hb, rfl, _⟩ := h
  obtain ⟨A, n, c, l, rfl, h1, h2, h3, h4, h5⟩ := bytes_bulk hb
  refine ⟨a0, a1, A, n, c, l, rfl, wf_u16 f0, wf_u16 f1, h1, h2, h3, h4, ?_⟩
  simp only [Rows.uptoBulk, Rows.uptoBulkAll]
  omega
theorem dgram_of {w : World} {cs : List Value} {d : DataW H} (h : KDg w cs d) : ∃ (z : Int × Int × List Int) (A : Option Addr) (n c : Nat), cs = dv z.1 z.2.1 A n c ∧ (0 ≤ z.1 ∧ z.1 ≤ 65535) ∧ (0 ≤ z.2.1 ∧ z.2.1 ≤ 65535) ∧ By w A n z.2.2 ∧ Bytes z.2.2 ∧ n ≤ c := by
  obtain ⟨sp, dp, A, n, c, l, rfl, s1, s2, h1, h2, h3, h4, h5⟩ := dg_of h
  exact ⟨(sp, dp, l), A, n, c, rfl, s1, s2, h1, h2, h3⟩
abbrev KItem {H : Type} : Rdr H := KAgg [(1, KInt .u32), (1, KInt .u32), (3, KDg), (1, KBool), (1, KBytes)]
theorem item_of {w : World} {cs : List Value} {d : DataW H} (h : KItem w cs d) (hb : Rows.uptoBulk d ≤ 90000000000000) : ∃ (x : Item) (A : Option Addr) (n c : Nat) (B : Option Addr) (m e : Nat), cs = iv x A n c B m e ∧ x.Fine ∧ ItAt w x A n c B m e := by
  obtain ⟨ds, rfl, h⟩ := h
  obtain ⟨_, _, _, _, rfl, rfl, _, ⟨a0, rfl, _, f0⟩, _, _, _, _, rfl, rfl, _, ⟨a1, rfl, _, f1⟩, _, _, _, _, rfl, rfl, _, hd, _, _, _, _, rfl, rfl, _, ⟨a2, rfl, _⟩, _, _, _, _, rfl, rfl, _, hr, rfl, _⟩ := h
  obtain ⟨sp, dp, A, n, c, l, rfl, s1, s2, h1, h2, h3, h4, h5⟩ := dg_of hd
  obtain ⟨B, m, e, r, rfl, k1, k2, k3, k4, k5⟩ := bytes_bulk hr
  simp only [Rows.uptoBulk, Rows.uptoBulkAll] at hb
  exact ⟨⟨a0, a1, sp, dp, l, a2, r⟩, A, n, c, B, m, e, rfl, ⟨wf_u32 f0, wf_u32 f1, s1, s2, h2, k2, by show l.length ≤ _; omega, by show r.length ≤ _; omega⟩, ⟨h1, k1⟩⟩
theorem items_ofB {w : World} {A : Option Addr} {n c : Nat} {d : DataW H} (h : KSl 7 72 KItem w [.slice A n c] d) (hb : Rows.uptoBulk d ≤ 1048576) : Its w A n ∧ n ≤ 1000000000000 := by
  rcases h with ⟨e, rfl⟩ | ⟨a, len, cap, D, rest, e, rfl, hl, hD, hB, hel⟩
  · obtain ⟨rfl, rfl, rfl⟩ := slice_one e
    exact ⟨fun h => by omega, by omega⟩
  · obtain ⟨rfl, rfl, rfl⟩ := slice_one e
    have hbl := bulk_len D
    simp only [Rows.uptoBulk] at hb
    refine ⟨fun _ => ⟨a, rfl, fun i hi => ?_⟩, by omega⟩
    obtain ⟨cs', x, hx0, hat, hx⟩ := hel i hi
    have hm := bulk_mem hx0
    obtain ⟨o, A, n, c, B, m, d, rfl, hf, ho⟩ := item_of hx (by omega)
    exact ⟨o, A, n, c, B, m, d, hat, hf, ho⟩
end
end Go.Proofs.YtphbdmafchjjeaaS
