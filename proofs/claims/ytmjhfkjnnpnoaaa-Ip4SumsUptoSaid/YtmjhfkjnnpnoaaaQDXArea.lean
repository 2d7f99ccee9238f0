/- An area of options, as a list is read from its front; what optionsOK and orderly of the printed program answer.
   Conditions: bytes are 0 to 255, lists short enough for 64 bits. -/
import Derived.Test.YtmjhfkjnnpnoaaaQDXSum
import Derived.Test.YtmjhfkjnnpnoaaaQDXAx0
import Derived.Test.YtmjhfkjnnpnoaaaQDXAx1
import Derived.Test.YtmjhfkjnnpnoaaaQDXAx5
import Derived.Test.YtmjhfkjnnpnoaaaQDXAx7
namespace Go.Proofs.YtmjhfkjnnpnoaaaX
open Go.RowKit Go.Proofs.Ytmjhfkjnnpnoaaa.XA Go.Proofs.YtmjhfkjnnpnoaaaW.PrintWords Go.Proofs.YtmjhfkjnnpnoaaaW.PrintLast Go.Proofs.YtmjhfkjnnpnoaaaW.PrintMore
set_option linter.unusedVariables false
set_option linter.unusedSimpArgs false

/-- May these be an area's options, from here on? -/
def area : List Int → Bool
  | [] => true
  | [x] => decide (x = 0 ∨ x = 1)
  | x :: n :: l => if x = 0 then (n :: l).all (· == 0) else if x = 1 then area (n :: l) else if n < 2 ∨ n.toNat - 2 > l.length then false else area (l.drop (n.toNat - 2))
termination_by l => l.length
decreasing_by all_goals simp only [List.length_cons, List.length_drop]; omega
/-- May this be an area of options? -/
def oOK (o : List Int) : Bool := decide (o.length ≤ 40) && (decide (o.length % 4 = 0) && area o)
theorem oOK_len {o : List Int} (h : oOK o = true) : o.length ≤ 40 ∧ o.length % 4 = 0 := by
  simp [oOK] at h
  exact ⟨h.1, h.2.1⟩

/-- May a piece of that offset and body be? -/
def ordB (off body : Int) (mf : Bool) : Bool := decide (0 ≤ off ∧ off ≤ 65528 ∧ off % 8 = 0 ∧ off + body ≤ 65535) && (!mf || decide (0 < body ∧ body % 8 = 0))
theorem ordB_true {off body : Int} {mf : Bool} (h : ordB off body mf = true) : (0 ≤ off ∧ off ≤ 65528 ∧ off % 8 = 0 ∧ off + body ≤ 65535) ∧ (mf = true → 0 < body ∧ body % 8 = 0) := by
  simp [ordB] at h
  refine ⟨h.1, fun hm => ?_⟩
  rcases h.2 with h2 | h2
  · rw [hm] at h2; cases h2
  · exact h2

end Go.Proofs.YtmjhfkjnnpnoaaaX
