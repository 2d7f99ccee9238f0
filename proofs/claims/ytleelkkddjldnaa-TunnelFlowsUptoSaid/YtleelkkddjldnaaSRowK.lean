/- How a list of frames is read as an argument of this seat's rows, with the room behind each body.
   Conditions: none; every statement is proved here. -/
import Derived.Test.YtleelkkddjldnaaSRowF
import Derived.Test.YtleelkkddjldnaaSTLawK
namespace Go.Proofs.YtleelkkddjldnaaS
open Go Go.RowKit Go.Proofs Go.Proofs.YtleelkkddjldnaaX Go.Proofs.Ytleelkkddjldnaa
set_option maxRecDepth 100000
set_option linter.unusedVariables false
set_option linter.unusedSectionVars false
set_option linter.unusedSimpArgs false
section
variable {H : Type}
theorem opn_frameC : Opn (H := H) Try.prog 42 (KSl 14 40 KFrame) := opn_frames
theorem frameC_ofB {w : World} {A : Option Addr} {n c : Nat} {d : DataW H} (h : KSl 14 40 KFrame w [.slice A n c] d) (hb : Rows.uptoBulk d ≤ 1048576) : FrsC w A n ∧ n ≤ 1000000000000 := by
  rcases h with ⟨e, rfl⟩ | ⟨a, len, cap, D, rest, e, rfl, hl, hD, hB, hel⟩
  · obtain ⟨rfl, rfl, rfl⟩ := slice_one e
    exact ⟨fun h => by omega, by omega⟩
  · obtain ⟨rfl, rfl, rfl⟩ := slice_one e
    have hbl := bulk_len D
    simp only [Rows.uptoBulk] at hb
    refine ⟨fun _ => ⟨a, rfl, fun i hi => ?_⟩, by omega⟩
    obtain ⟨cs', x, hx0, hat, hx⟩ := hel i hi
    have hm := bulk_mem hx0
    obtain ⟨f, B, m, d, rfl, h1, h2, h3, h4⟩ := fr_of hx
    exact ⟨f, B, m, d, hat, h1, h2, by rw [← h2.len]; omega, h3⟩
end
end Go.Proofs.YtleelkkddjldnaaS
