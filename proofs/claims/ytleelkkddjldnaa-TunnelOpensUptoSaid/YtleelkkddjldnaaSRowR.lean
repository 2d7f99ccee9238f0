/- How lists of bytes are read as an argument of this seat's rows, with the room behind each.
   Conditions: none; every statement is proved here. -/
import Derived.Test.YtleelkkddjldnaaSRowF
import Derived.Test.YtleelkkddjldnaaSTLawO
namespace Go.Proofs.YtleelkkddjldnaaS
open Go Go.RowKit Go.Proofs Go.Proofs.YtleelkkddjldnaaX Go.Proofs.Ytleelkkddjldnaa
set_option maxRecDepth 100000
set_option linter.unusedVariables false
set_option linter.unusedSectionVars false
set_option linter.unusedSimpArgs false
section
variable {H : Type}
theorem opn_rawsC : Opn (H := H) Try.prog 41 (KSl 1 24 KBytes) := opn_raws
theorem rawsC_ofB {w : World} {A : Option Addr} {n c : Nat} {d : DataW H} (h : KSl 1 24 KBytes w [.slice A n c] d) (hb : Rows.uptoBulk d ≤ 1048576) : RawsC w A n ∧ n ≤ 1000000000000 := by
  rcases h with ⟨e, rfl⟩ | ⟨a, len, cap, D, rest, e, rfl, hl, hD, hB, hel⟩
  · obtain ⟨rfl, rfl, rfl⟩ := slice_one e
    exact ⟨fun h => by omega, by omega⟩
  · obtain ⟨rfl, rfl, rfl⟩ := slice_one e
    have hbl := bulk_len D
    simp only [Rows.uptoBulk] at hb
    refine ⟨fun _ => ⟨a, rfl, fun i hi => ?_⟩, by omega⟩
    obtain ⟨cs', x, hx0, hat, hx⟩ := hel i hi
    have hm := bulk_mem hx0
    obtain ⟨B, m, d, l, rfl, h1, h2, h3, h4, h5⟩ := bytes_bulk hx
    exact ⟨l, B, m, d, hat, h1, h2, by rw [← h1.len]; omega, h3⟩
end
end Go.Proofs.YtleelkkddjldnaaS
