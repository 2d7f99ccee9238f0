/- How the arguments of this seat's rows are read; what their bulk bounds.
   Conditions: none; every statement is proved here. -/
import Derived.Test.YtphbdmafchjjeaaDoorHSRow
import Derived.Test.YtphbdmafchjjeaaDoorHSPk
import Derived.Test.YtphbdmafchjjeaaDoorRows
import Derived.ProofKit
namespace Go.Proofs.YtphbdmafchjjeaaDoorS
open Go Go.RowKit Go.Proofs Go.Proofs.YtphbdmafchjjeaaDoorX Go.Proofs.YtphbdmafchjjeaaDoor
set_option maxRecDepth 100000
set_option linter.unusedVariables false
set_option linter.unusedSectionVars false
set_option linter.unusedSimpArgs false

theorem own_ : ownKnob Tryd.prog.godebug = none := by kernel_rfl
theorem laidOut_ : laidOutB Tryd.prog = true := by kernel_rfl

/-! ### bulk -/
section
variable {H : Type}
theorem bulk_pos (d : DataW H) : 1 ≤ Rows.uptoBulk d := by
  cases d with
  | lit l => cases l <;> simp [Rows.uptoBulk]
  | _ => simp [Rows.uptoBulk]
theorem bulk_mem : ∀ {D : List (DataW H)} {i : Nat} {x : DataW H}, D[i]? = some x → Rows.uptoBulk x ≤ Rows.uptoBulkAll D
  | [], i, x, h => by simp at h
  | d :: r, 0, x, h => by
    simp only [List.getElem?_cons_zero, Option.some.injEq] at h
    subst h
    simp only [Rows.uptoBulkAll]
    omega
  | d :: r, i + 1, x, h => by
    simp only [List.getElem?_cons_succ] at h
    have := bulk_mem h
    simp only [Rows.uptoBulkAll]
    omega
theorem bulk_len : ∀ (D : List (DataW H)), D.length ≤ Rows.uptoBulkAll D
  | [] => by simp
  | d :: r => by
    have h1 := bulk_pos d
    have h2 := bulk_len r
    simp only [Rows.uptoBulkAll, List.length_cons]
    omega
abbrev KBytes {H : Type} : Rdr H := KSl 1 1 (KInt .u8)
theorem opn_bytes : Opn (H := H) Tryd.prog 41 KBytes := opn_slice Tryd.underlying41 (by kernel_rfl) (by kernel_rfl) (opn_int (by kernel_rfl))
/-- A list of bytes, and its length by its datum's bulk. -/
theorem bytes_bulk {w : World} {cs : List Value} {d : DataW H} (h : KBytes w cs d) : ∃ A n c l, cs = [.slice A n c] ∧ By w A n l ∧ Bytes l ∧ n ≤ c ∧ l.length ≤ 140737488351232 ∧ l.length ≤ Rows.uptoBulk d := by
  have hb : ∀ {A : Option Addr} {n c : Nat}, cs = [.slice A n c] → n ≤ Rows.uptoBulk d := by
    intro A n c e
    rcases h with ⟨e2, rfl⟩ | ⟨a, len, cap, D, rest, e2, rfl, hl, hD, hB, hel⟩
    · rw [e2] at e
      injection e with e _
      injection e with _ e _
      omega
    · rw [e2] at e
      injection e with e _
      injection e with _ e _
      have := bulk_len D
      simp only [Rows.uptoBulk]
      omega
  obtain ⟨A, n, c, l, e, h1, h2, h3, h4⟩ := bytes_of h
  exact ⟨A, n, c, l, e, h1, h2, h3, h4, by rw [h1.len]; exact hb e⟩
theorem slice_one {A B : Option Addr} {n c m d : Nat} (h : [Value.slice A n c] = [Value.slice B m d]) : A = B ∧ n = m ∧ c = d := by
  injection h with h _
  injection h with h1 h2 h3
  exact ⟨h1, h2, h3⟩


/-! ### packets -/
abbrev KHead {H : Type} : Rdr H := KAgg [(1, KInt .u8), (1, KInt .u16), (1, KBool), (1, KBool), (1, KInt .i64), (1, KInt .u8), (1, KInt .u8), (1, KInt .u32), (1, KInt .u32), (1, KBytes)]
abbrev KPkt {H : Type} : Rdr H := KAgg [(10, KHead), (1, KBytes)]
theorem opn_head : Opn (H := H) Tryd.prog 43 KHead := opn_struct (tot := 10) Tryd.underlying43 (by kernel_rfl)
  (opnF_cons rfl (by kernel_rfl) (by decide) (opn_int (by kernel_rfl)) (opnF_cons rfl (by kernel_rfl) (by decide) (opn_int (by kernel_rfl)) (opnF_cons rfl (by kernel_rfl) (by decide) (opn_bool (by kernel_rfl)) (opnF_cons rfl (by kernel_rfl) (by decide) (opn_bool (by kernel_rfl))
  (opnF_cons rfl (by kernel_rfl) (by decide) (opn_int (by kernel_rfl)) (opnF_cons rfl (by kernel_rfl) (by decide) (opn_int (by kernel_rfl)) (opnF_cons rfl (by kernel_rfl) (by decide) (opn_int (by kernel_rfl)) (opnF_cons rfl (by kernel_rfl) (by decide) (opn_int (by kernel_rfl))
  (opnF_cons rfl (by kernel_rfl) (by decide) (opn_int (by kernel_rfl)) (opnF_cons rfl (by kernel_rfl) (by decide) opn_bytes opnF_nil))))))))))
theorem opn_pkt : Opn (H := H) Tryd.prog 45 KPkt := opn_struct (tot := 11) Tryd.underlying45 (by kernel_rfl) (opnF_cons rfl (by kernel_rfl) (by decide) opn_head (opnF_cons rfl (by kernel_rfl) (by decide) opn_bytes opnF_nil))
theorem head_of {w : World} {cs : List Value} {d : DataW H} (h : KHead w cs d) : ∃ (p : Pk) (A : Option Addr) (n c : Nat), cs = pv p A n c ∧ By w A n p.opts ∧ n ≤ c ∧ p.body = [] ∧ p.Fine ∧ p.opts.length ≤ Rows.uptoBulk d := by
  obtain ⟨ds, rfl, h⟩ := h
  obtain ⟨_, _, _, _, rfl, rfl, _, ⟨a0, rfl, _, f0⟩, _, _, _, _, rfl, rfl, _, ⟨a1, rfl, _, f1⟩, _, _, _, _, rfl, rfl, _, ⟨a2, rfl, _⟩, _, _, _, _, rfl, rfl, _, ⟨a3, rfl, _⟩, _, _, _, _, rfl, rfl, _, ⟨a4, rfl, _, f4⟩,
    _, _, _, _, rfl, rfl, _, ⟨a5, rfl, _, f5⟩, _, _, _, _, rfl, rfl, _, ⟨a6, rfl, _, f6⟩, _, _, _, _, rfl, rfl, _, ⟨a7, rfl, _, f7⟩, _, _, _, _, rfl, rfl, _, ⟨a8, rfl, _, f8⟩, _, _, _, _, rfl, rfl, _, hb, rfl, _⟩ := h
  obtain ⟨A, n, c, l, rfl, h1, h2, h3, h4, h5⟩ := bytes_bulk hb
  refine ⟨⟨a0, a1, a2, a3, a4, a5, a6, a7, a8, l, []⟩, A, n, c, rfl, h1, h3, rfl, ⟨wf_u8 f0, wf_u16 f1, wf_i64 f4, wf_u8 f5, wf_u8 f6, wf_u32 f7, wf_u32 f8, h2, Bytes.nil, h4, by simp⟩, ?_⟩
  simp only [Rows.uptoBulk, Rows.uptoBulkAll]
  show l.length ≤ _
  omega
theorem pkt_of {w : World} {cs : List Value} {d : DataW H} (h : KPkt w cs d) : ∃ (p : Pk) (A : Option Addr) (n c : Nat) (B : Option Addr) (m e : Nat), cs = pb p A n c B m e ∧ p.Fine ∧ PkAt w p A n c B m e ∧ p.opts.length ≤ Rows.uptoBulk d ∧ p.body.length ≤ Rows.uptoBulk d := by
  obtain ⟨ds, rfl, _, _, _, _, rfl, rfl, _, hh, _, _, _, _, rfl, rfl, _, hb, rfl, _⟩ := h
  obtain ⟨p, A, n, c, rfl, h1, h2, h3, h4, h5⟩ := head_of hh
  obtain ⟨B, m, e, l, rfl, k1, k2, k3, k4, k5⟩ := bytes_bulk hb
  refine ⟨⟨p.tos, p.id, p.df, p.mf, p.off, p.ttl, p.proto, p.src, p.dst, p.opts, l⟩, A, n, c, B, m, e, rfl, ⟨h4.tos, h4.id, h4.off, h4.ttl, h4.proto, h4.src, h4.dst, h4.opts, k2, h4.lo, k4⟩, ⟨h1, k1, h2, k3⟩, ?_, ?_⟩
  · simp only [Rows.uptoBulk, Rows.uptoBulkAll]
    show p.opts.length ≤ _
    omega
  · simp only [Rows.uptoBulk, Rows.uptoBulkAll]
    show l.length ≤ _
    omega
/-! ### lists of lists -/
theorem flat_bulk : ∀ (D : List (DataW H)) (ps : List (List Int)), ps.length = D.length → (∀ (i : Nat) (p : List Int) (x : DataW H), ps[i]? = some p → D[i]? = some x → p.length ≤ Rows.uptoBulk x) → ps.flatten.length ≤ Rows.uptoBulkAll D
  | [], [], _, _ => by simp
  | [], _ :: _, h, _ => by simp at h
  | _ :: _, [], h, _ => by simp at h
  | d :: D, p :: ps, h, k => by
    have h1 := k 0 p d rfl rfl
    have h2 := flat_bulk D ps (by simpa using h) (fun i p x hp hx => k (i + 1) p x (by simpa using hp) (by simpa using hx))
    simp only [List.flatten_cons, List.length_append, Rows.uptoBulkAll]
    omega
abbrev KRaws {H : Type} : Rdr H := KSl 1 24 KBytes
theorem opn_raws : Opn (H := H) Tryd.prog 144 KRaws := opn_slice Tryd.underlying144 (by kernel_rfl) (by kernel_rfl) opn_bytes
/-- A list of lists of bytes, with its lengths by its datum's bulk. -/
theorem raws_bulk {w : World} {cs : List Value} {d : DataW H} (h : KRaws w cs d) : ∃ (A : Option Addr) (n c : Nat) (ps : List (List Int)), cs = [.slice A n c] ∧ Bys w A n ps ∧ (∀ p ∈ ps, Bytes p) ∧ ps.length ≤ Rows.uptoBulk d ∧ ps.flatten.length ≤ Rows.uptoBulk d := by
  rcases h with ⟨rfl, rfl⟩ | ⟨a, len, cap, D, rest, rfl, rfl, hl, hD, hB, hel⟩
  · exact ⟨none, 0, 0, [], rfl, ⟨rfl, fun h => absurd h (Nat.lt_irrefl 0)⟩, (fun p hp => by cases hp), Nat.zero_le _, Nat.zero_le _⟩
  · have key : ∀ i, i < len → ∃ l : List Int, (∃ B m d, w.cell? (a.add i) = some (.slice B m d) ∧ By w B m l) ∧ Bytes l ∧ ∃ x, D[i]? = some x ∧ l.length ≤ Rows.uptoBulk x := fun i hi => by
      obtain ⟨cs', x, hx0, hat, hx⟩ := hel i hi
      obtain ⟨B, m, d, l, rfl, h1, h2, h3, h4, h5⟩ := bytes_bulk hx
      refine ⟨l, ⟨B, m, d, ?_, h1⟩, h2, x, hx0, h5⟩
      have := hat 0 _ rfl
      rwa [Nat.mul_one, addr_add_zero] at this
    obtain ⟨f, hf⟩ := Deep.choose_lt key
    have hg : ∀ i, i < len → ((List.range len).map f)[i]? = some (f i) := fun i hi => by simp [hi]
    have h3 := flat_bulk D ((List.range len).map f) (by simp [hD]) (fun i p x hp hx => by
      have hi : i < len := by rw [← hD]; exact (List.getElem?_eq_some_iff.1 hx).1
      rw [hg i hi] at hp
      injection hp with hp
      subst hp
      obtain ⟨_, _, x', e1, e2⟩ := hf i hi
      rw [e1] at hx
      injection hx with hx
      subst hx
      exact e2)
    have h4 := bulk_len D
    refine ⟨some a, len, cap, (List.range len).map f, rfl, ⟨by simp, fun _ => ⟨a, rfl, fun i hi => ?_⟩⟩, fun p hp => ?_, ?_, ?_⟩
    · obtain ⟨⟨B, m, d, e1, e2⟩, _⟩ := hf i hi
      exact ⟨B, m, d, e1, by rw [List.getD_eq_getElem?_getD, hg i hi]; exact e2⟩
    · obtain ⟨i, hi, rfl⟩ := List.mem_map.1 hp
      exact (hf i (List.mem_range.1 hi)).2.1
    · simp only [Rows.uptoBulk, List.length_map, List.length_range]
      omega
    · simp only [Rows.uptoBulk]
      omega
/-! ### numbers -/
theorem opn_ints : Opn (H := H) Tryd.prog 94 (KSl 1 8 (KInt .i64)) := opn_slice Tryd.underlying94 (by kernel_rfl) (by kernel_rfl) (opn_int (by kernel_rfl))
end
end Go.Proofs.YtphbdmafchjjeaaDoorS
