/- How frames and lists of bytes are read as arguments of this seat's rows.
   Conditions: none; every statement is proved here. -/
import Derived.Test.YtphbdmafchjjeaaSRowT
import Derived.Test.YtphbdmafchjjeaaSTLawF
namespace Go.Proofs.YtphbdmafchjjeaaS
open Go Go.RowKit Go.Proofs Go.Proofs.YtphbdmafchjjeaaX Go.Proofs.Ytphbdmafchjjeaa
set_option maxRecDepth 100000
set_option linter.unusedVariables false
set_option linter.unusedSectionVars false
set_option linter.unusedSimpArgs false
section
variable {H : Type} {P : Program} {t e : TypeId}
def KArr {H : Type} (n : Nat) : Rdr H := fun _ cs _ => ∃ l : List Int, cs = bv l ∧ l.length = n ∧ Bytes l
theorem opn_arr {n : Nat} (ht : P.underlying t = some (.array n e)) (hc : P.cellsOf e = 1) (hn : P.cellsOf t = n) (he : P.underlying e = some (.int .u8)) : Opn P (H := H) t (KArr n) := by
  intro enc w base spare held fuel cs x hx _
  obtain ⟨xs, m, _, rfl, hl, hlen, hel⟩ := DataW.trod_array ht hx
  have key : ∀ i, i < n → ∃ x : Int, cs[i]? = some (.int .u8 x) ∧ (0 ≤ x ∧ x ≤ 255) := fun i hi => by
    have h1 := hel i hi
    rw [hc, Nat.mul_one] at h1
    obtain ⟨x, hx⟩ : ∃ x, xs[i]? = some x := ⟨_, List.getElem?_eq_getElem (by omega)⟩
    rw [hx] at h1
    obtain ⟨v, h2, h3, h4⟩ := DataW.trod_int he h1
    refine ⟨v, ?_, wf_u8 h4⟩
    have : ((cs.drop i).take 1)[0]? = some (.int .u8 v) := by rw [h2]; rfl
    simpa using this
  obtain ⟨f, hf⟩ := Deep.choose_lt key
  refine ⟨(List.range n).map f, List.ext_getElem? fun i => ?_, by simp, fun x hx => ?_⟩
  · by_cases hi : i < n
    · rw [(hf i hi).1]
      simp [bv, hi]
    · rw [List.getElem?_eq_none (by omega), List.getElem?_eq_none (by rw [bv_len]; simp; omega)]
  · obtain ⟨i, hi, rfl⟩ := List.mem_map.1 hx
    exact (hf i (List.mem_range.1 hi)).2
abbrev KFrame {H : Type} : Rdr H := KAgg [(6, KArr 6), (6, KArr 6), (1, KInt .u16), (1, KBytes)]
theorem opn_frame : Opn (H := H) Try.prog 31 KFrame := opn_struct (tot := 14) Try.underlying31 (by kernel_rfl)
  (opnF_cons rfl (by kernel_rfl) (by decide) (opn_arr Try.underlying28 (by kernel_rfl) (by kernel_rfl) (by kernel_rfl)) (opnF_cons rfl (by kernel_rfl) (by decide) (opn_arr Try.underlying28 (by kernel_rfl) (by kernel_rfl) (by kernel_rfl)) (opnF_cons rfl (by kernel_rfl) (by decide) (opn_int (by kernel_rfl)) (opnF_cons rfl (by kernel_rfl) (by decide) opn_bytes opnF_nil))))
theorem six {l : List Int} (h : l.length = 6) : ∃ a b c d e f, l = [a, b, c, d, e, f] := by
  match l, h with
  | [a, b, c, d, e, f], _ => exact ⟨a, b, c, d, e, f, rfl⟩
theorem fr_of {w : World} {cs : List Value} {d : DataW H} (h : KFrame w cs d) : ∃ (f : Fr) (A : Option Addr) (n c : Nat), cs = fv f A n c ∧ f.Fine ∧ By w A n f.body ∧ n ≤ c ∧ f.body.length ≤ Rows.uptoBulk d := by
  obtain ⟨ds, rfl, h⟩ := h
  obtain ⟨_, _, _, _, rfl, rfl, _, ⟨l0, rfl, e0, b0⟩, _, _, _, _, rfl, rfl, _, ⟨l1, rfl, e1, b1⟩, _, _, _, _, rfl, rfl, _, ⟨a1, rfl, _, f1⟩, _, _, _, _, rfl, rfl, _, hb, rfl, _⟩ := h
  obtain ⟨A, n, c, l, rfl, h1, h2, h3, h4, h5⟩ := bytes_bulk hb
  obtain ⟨x0, x1, x2, x3, x4, x5, rfl⟩ := six e0
  obtain ⟨y0, y1, y2, y3, y4, y5, rfl⟩ := six e1
  refine ⟨⟨x0, x1, x2, x3, x4, x5, y0, y1, y2, y3, y4, y5, a1, l⟩, A, n, c, rfl, ⟨b0.append b1, wf_u16 f1, h2, h4⟩, h1, h3, ?_⟩
  simp only [Rows.uptoBulk, Rows.uptoBulkAll]
  omega
theorem frame_ofB {w : World} {cs : List Value} {d : DataW H} (h : KFrame w cs d) (hb : Rows.uptoBulk d ≤ 1048576) : ∃ (f : Fr) (A : Option Addr) (n c : Nat), cs = fv f A n c ∧ f.Fine ∧ By w A n f.body ∧ n ≤ c ∧ f.body.length ≤ 1048576 := by
  obtain ⟨f, A, n, c, e, h1, h2, h3, h4⟩ := fr_of h
  exact ⟨f, A, n, c, e, h1, h2, h3, by omega⟩
theorem frame_of {w : World} {cs : List Value} {d : DataW H} (h : KFrame w cs d) : ∃ (f : Fr) (A : Option Addr) (n c : Nat), cs = fv f A n c ∧ f.Fine ∧ By w A n f.body ∧ n ≤ c := by
  obtain ⟨f, A, n, c, e, h1, h2, h3, h4⟩ := fr_of h
  exact ⟨f, A, n, c, e, h1, h2, h3⟩
theorem opn_raws : Opn (H := H) Try.prog 52 (KSl 1 24 KBytes) := opn_slice Try.underlying52 (by kernel_rfl) (by kernel_rfl) opn_bytes
theorem raws_ofB {w : World} {A : Option Addr} {n c : Nat} {d : DataW H} (h : KSl 1 24 KBytes w [.slice A n c] d) (hb : Rows.uptoBulk d ≤ 1048576) : Raws w A n ∧ n ≤ 1000000000000 := by
  rcases h with ⟨e, rfl⟩ | ⟨a, len, cap, D, rest, e, rfl, hl, hD, hB, hel⟩
  · obtain ⟨rfl, rfl, rfl⟩ := slice_one e
    exact ⟨fun h => by omega, by omega⟩
  · obtain ⟨rfl, rfl, rfl⟩ := slice_one e
    have hbl := bulk_len D
    simp only [Rows.uptoBulk] at hb
    refine ⟨fun _ => ⟨a, rfl, fun i hi => ?_⟩, by omega⟩
    obtain ⟨cs', x, hx0, hat, hx⟩ := hel i hi
    have hm := bulk_mem hx0
    obtain ⟨B, m, d, l, rfl, h1, h2, h3, h4, h5⟩ := bytes_bulk hx
    exact ⟨l, B, m, d, hat, h1, h2, by rw [← h1.len]; omega⟩
theorem frames_ofB {w : World} {A : Option Addr} {n c : Nat} {d : DataW H} (h : KSl 14 40 KFrame w [.slice A n c] d) (hb : Rows.uptoBulk d ≤ 1048576) : Frs w A n ∧ n ≤ 1000000000000 := by
  rcases h with ⟨e, rfl⟩ | ⟨a, len, cap, D, rest, e, rfl, hl, hD, hB, hel⟩
  · obtain ⟨rfl, rfl, rfl⟩ := slice_one e
    exact ⟨fun h => by omega, by omega⟩
  · obtain ⟨rfl, rfl, rfl⟩ := slice_one e
    have hbl := bulk_len D
    simp only [Rows.uptoBulk] at hb
    refine ⟨fun _ => ⟨a, rfl, fun i hi => ?_⟩, by omega⟩
    obtain ⟨cs', x, hx0, hat, hx⟩ := hel i hi
    have hm := bulk_mem hx0
    obtain ⟨f, B, m, d, rfl, h1, h2, h3, h4⟩ := fr_of hx
    exact ⟨f, B, m, d, hat, h1, h2, by rw [← h2.len]; omega⟩
end
end Go.Proofs.YtphbdmafchjjeaaS
