/- IcmpFlipTold: of a control message that was built one bit turned over is told.
   Conditions: none; every message and every bit is spoken of. -/
import Derived.Test.YtmjhfkjnnpnoaaaQBXPIcmp
import Derived.Test.YtmjhfkjnnpnoaaaQBXAx4
import Derived.Test.YtmjhfkjnnpnoaaaQBXRowIcmpFlipTold
namespace Go.Proofs.YtmjhfkjnnpnoaaaX
open Go.RowKit Go.Proofs.Ytmjhfkjnnpnoaaa.XA Go.Proofs.YtmjhfkjnnpnoaaaW.PrintWords Go.Proofs.YtmjhfkjnnpnoaaaW.PrintLast Go.Proofs.YtmjhfkjnnpnoaaaW.PrintMore
set_option linter.unusedVariables false
set_option linter.unusedSimpArgs false

theorem pureIcmpFlip : Go.Proofs.Ytmjhfkjnnpnoaaa.XicmpFlipTold.Pure := by
  intro x n hx hn
  obtain ⟨g0, g1, g2, g3⟩ := hx
  have hnr := wfi64 hn
  have hf : (Ic.mk x.f0 x.f1 x.f2 x.f3).Fine := ⟨wf8 g0, wf8 g1, wf32 g2, fun y hy => wf8 (g3.2 y hy), by have := g3.1; show x.f3.length ≤ _; omega⟩
  refine Ev.rounds (g := fun k => weftlaw6_IcmpFlipTold.f k x.f0 x.f1 x.f2 x.f3 n) ?_
  have h1 : (Ic.mk 8 0 0 []).Fine := by refine ⟨?_, ?_, ?_, ?_, ?_⟩ <;> simp [Bytes]
  by_cases h : n < 0
  · have e1 : wrap64 (n + 1) = n + 1 := w64 (by omega) (by omega)
    have e2 : wrap64 (-(n + 1)) = -(n + 1) := w64 (by omega) (by omega)
    refine Ev.congr (fun k => by rw [weftlaw6_IcmpFlipTold.f, if_pos h, e1, e2]) ?_
    refine Ev.bind (there_f h1) ?_
    simp only [if_true]
    refine Ev.bind (flip_f h1 (bit := -(n + 1)) (by omega) (by omega)) ?_
    simp only [if_true]
    refine Ev.bind (flip_f hf (bit := -(n + 1)) (by omega) (by omega)) ?_
    exact Ev.now _
  · refine Ev.congr (fun k => by rw [weftlaw6_IcmpFlipTold.f, if_neg h]) ?_
    refine Ev.bind (there_f h1) ?_
    simp only [if_true]
    refine Ev.bind (flip_f h1 (bit := n) (by omega) (by omega)) ?_
    simp only [if_true]
    refine Ev.bind (flip_f hf (bit := n) (by omega) (by omega)) ?_
    exact Ev.now _
theorem icmpFlipTold_row : Go.Proofs.Ytmjhfkjnnpnoaaa.Rows.IcmpFlipToldSaid := Go.Proofs.Ytmjhfkjnnpnoaaa.XicmpFlipTold.over pureIcmpFlip
end Go.Proofs.YtmjhfkjnnpnoaaaX
namespace Go.Proofs.Ytmjhfkjnnpnoaaa
/-- The row, under a short name, for the claim. -/
theorem icmpFlipTold_holds : Rows.IcmpFlipToldSaid := Go.Proofs.YtmjhfkjnnpnoaaaX.icmpFlipTold_row
end Go.Proofs.Ytmjhfkjnnpnoaaa
