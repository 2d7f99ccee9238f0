/- What the document's own answer (weftref3) makes of a packet's way through a router: the same plain function.
   Conditions: bytes are 0 to 255, the list short enough for 64 bits. -/
import Derived.Test.YtmjhfkjnnpnoaaaQIXRefB
import Derived.Test.YtmjhfkjnnpnoaaaQIXBack
import Derived.Test.YtmjhfkjnnpnoaaaQIXAx15
namespace Go.Proofs.YtmjhfkjnnpnoaaaX
open Go.RowKit Go.Proofs.Ytmjhfkjnnpnoaaa.XA Go.Proofs.YtmjhfkjnnpnoaaaW.PrintWords Go.Proofs.YtmjhfkjnnpnoaaaW.PrintLast Go.Proofs.YtmjhfkjnnpnoaaaW.PrintMore
set_option linter.unusedVariables false
set_option linter.unusedSimpArgs false

theorem age_r {b : List Int} (hb : Bytes b) (hl : b.length ≤ 140737488351232) : Ev (fun k => weftref3_Age.f k b) (if bad true b = 0 then if b.getD 8 0 ≤ 1 then ([], 35) else ((older (ofB b)).bytes (older (ofB b)).sum, 0) else ([], bad true b)) := by
  refine Ev.bind (parse_r hb hl) ?_
  by_cases h : ¬ (bad true b = 0)
  · simp only [if_neg h, hd0]
    exact Ev.now _
  replace h : bad true b = 0 := Decidable.of_not_not h
  have H := holds hb hl h
  have g8 := hb.getD 8
  simp only [if_pos h, hdF, if_true]
  by_cases ht : b.getD 8 0 ≤ 1
  · simp only [if_pos ht]
    exact Ev.congr (fun k => by rw [if_pos (by omega)]) (Ev.now _)
  simp only [if_neg ht]
  have ho : (older (ofB b)).Fine := older_fine H.fine (by show 0 < b.getD 8 0; omega)
  have hoe : (older (ofB b)).err = 0 := H.err
  have hB := build_r ho
  rw [if_pos hoe] at hB
  refine Ev.congr (fun k => by rw [if_neg (by omega), show (b.getD 8 0 - 1) % 256 = b.getD 8 0 - 1 by omega]) ?_
  exact Ev.bind hB (Ev.now _)
end Go.Proofs.YtmjhfkjnnpnoaaaX
