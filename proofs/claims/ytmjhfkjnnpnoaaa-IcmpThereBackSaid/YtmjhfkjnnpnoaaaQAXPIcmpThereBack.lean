/- IcmpThereBack: what Build makes of a control message Parse reads again, with a right sum; what Parse reads Build makes again, but for a sum of 65535 for 0.
   Conditions: none; every message and every list of bytes is spoken of. -/
import Derived.Test.YtmjhfkjnnpnoaaaQAXPIcmp
import Derived.Test.YtmjhfkjnnpnoaaaQAXAx3
import Derived.Test.YtmjhfkjnnpnoaaaQAXRowIcmpThereBack
namespace Go.Proofs.YtmjhfkjnnpnoaaaX
open Go.RowKit Go.Proofs.Ytmjhfkjnnpnoaaa.XA Go.Proofs.YtmjhfkjnnpnoaaaW.PrintWords Go.Proofs.YtmjhfkjnnpnoaaaW.PrintLast Go.Proofs.YtmjhfkjnnpnoaaaW.PrintMore
set_option linter.unusedVariables false
set_option linter.unusedSimpArgs false

theorem pureThereBack : Go.Proofs.Ytmjhfkjnnpnoaaa.XicmpThereBack.Pure := by
  intro x b hx hb
  obtain ⟨g0, g1, g2, g3⟩ := hx
  have hf : (Ic.mk x.f0 x.f1 x.f2 x.f3).Fine := ⟨wf8 g0, wf8 g1, wf32 g2, fun y hy => wf8 (g3.2 y hy), by have := g3.1; show x.f3.length ≤ _; omega⟩
  have hbb : Bytes b := fun y hy => wf8 (hb.2 y hy)
  have hbl : b.length ≤ 140737488351232 := by have := hb.1; omega
  refine Ev.rounds (g := fun k => weftlaw6_IcmpThereBack.f k x.f0 x.f1 x.f2 x.f3 b) ?_
  have h1 : (Ic.mk 8 0 65538 [97, 98, 99]).Fine := by refine ⟨?_, ?_, ?_, ?_, ?_⟩ <;> simp [Bytes]
  have hr : weftlaw6_request.f = some (0, 7, false, false, 0, 1, 1, 167838211, 167904004, [131, 3, 4, 0], [8, 0, 51, 154, 0, 1, 0, 2, 97, 98, 99]) := rfl
  have h2 : Bytes [8, 0, 51, 154, 0, 1, 0, 2, 97, 98, 99] := by simp [Bytes]
  refine Ev.bind (there_f h1) ?_
  simp only [if_true]
  refine Ev.congr (fun k => by rw [hr, Option.bind_some]) ?_
  refine Ev.bind (back_f h2 (by simp)) ?_
  simp only [if_true]
  refine Ev.bind (there_f hf) ?_
  simp only [if_true]
  refine Ev.bind (back_f hbb hbl) ?_
  exact Ev.now _
theorem icmpThereBack_row : Go.Proofs.Ytmjhfkjnnpnoaaa.Rows.IcmpThereBackSaid := Go.Proofs.Ytmjhfkjnnpnoaaa.XicmpThereBack.over pureThereBack
end Go.Proofs.YtmjhfkjnnpnoaaaX
namespace Go.Proofs.Ytmjhfkjnnpnoaaa
/-- The row, under a short name, for the claim. -/
theorem icmpThereBack_holds : Rows.IcmpThereBackSaid := Go.Proofs.YtmjhfkjnnpnoaaaX.icmpThereBack_row
end Go.Proofs.Ytmjhfkjnnpnoaaa
