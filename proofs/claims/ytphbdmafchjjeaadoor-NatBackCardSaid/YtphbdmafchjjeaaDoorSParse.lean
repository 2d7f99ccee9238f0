/- What Parse of packages ip4 and weftref3 answers.
   Conditions: bytes are 0 to 255; lists are no longer than memory lets. -/
import Derived.Test.YtphbdmafchjjeaaDoorSRef3D
namespace Go.Proofs.YtphbdmafchjjeaaDoorS
open Go Go.RowKit Go.Proofs Go.Proofs.YtphbdmafchjjeaaDoorX
set_option maxRecDepth 100000
set_option linter.unusedVariables false
set_option linter.unusedSectionVars false
set_option linter.unusedSimpArgs false

/-- The packet that was read; none: all zero. -/
def pkOf (b : List Int) : Pk := ⟨b.getD 1 0, wd b 4, decide (wd b 6 / 16384 % 2 = 1), decide (wd b 6 / 8192 % 2 = 1), wd b 6 % 8192 * 8, b.getD 8 0, b.getD 9 0, lg b 12, lg b 16, (b.take (hlen b)).drop 20, (b.take (there b)).drop (hlen b)⟩
def pkOut (b : List Int) : Pk := if bad true b = 0 then pkOf b else pz
theorem rd_out {w w' : World} {b : List Int} {e : Ending} (h : RetRd w true b e w') : Bel w w' ∧ RetPk w (pkOut b) (bad true b) e w' := by
  obtain ⟨k, h⟩ := h
  refine ⟨k, ?_⟩
  unfold pkOut
  by_cases h0 : bad true b = 0
  · rw [if_pos h0] at h
    obtain ⟨A1, c1, A2, c2, rfl, y1, y2, l1, l2, f1, f2⟩ := h
    rw [if_pos h0, h0]
    exact ⟨_, _, _, _, _, _, rfl, ⟨y1, y2, l1, l2⟩, f1, f2⟩
  · rw [if_neg h0] at h
    subst h
    rw [if_neg h0]
    exact ret_pz w w' _
end Go.Proofs.YtphbdmafchjjeaaDoorS
