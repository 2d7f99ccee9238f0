/- A byte with one bit turned over, and what that does to the sum of words.
   Conditions: none; every statement is proved here. -/
import Derived.Test.YtmjhfkjnnpnoaaaQBXBit
namespace Go.Proofs.YtmjhfkjnnpnoaaaX
open Go.RowKit Go.Proofs.Ytmjhfkjnnpnoaaa.XA Go.Proofs.YtmjhfkjnnpnoaaaW.PrintWords Go.Proofs.YtmjhfkjnnpnoaaaW.PrintLast Go.Proofs.YtmjhfkjnnpnoaaaW.PrintMore
set_option linter.unusedVariables false
set_option linter.unusedSimpArgs false

/-- A bit's weight. -/
def bw (j : Nat) : Int := ((2 ^ j : Nat) : Int)
/-- The byte with that bit turned over. -/
def flip8 (x : Int) (j : Nat) : Int := if x / bw j % 2 = 1 then x - bw j else x + bw j
theorem shl_one {j : Nat} (h : j < 8) : shl .u8 1 (j : Int) = bw j := by
  have : ∀ j : Fin 8, shl .u8 1 ((j.val : Nat) : Int) = bw j.val := by decide
  exact this ⟨j, h⟩
theorem flip_fin : ∀ x : Fin 256, ∀ j : Fin 8, Go.bits .xor .u8 ((x.val : Nat) : Int) (bw j.val) = flip8 ((x.val : Nat) : Int) j.val ∧ 0 ≤ flip8 ((x.val : Nat) : Int) j.val ∧ flip8 ((x.val : Nat) : Int) j.val ≤ 255 := by decide +kernel
theorem flip_ok {x : Int} (h0 : 0 ≤ x) (h1 : x ≤ 255) {j : Nat} (h : j < 8) : Go.bits .xor .u8 x (bw j) = flip8 x j ∧ 0 ≤ flip8 x j ∧ flip8 x j ≤ 255 := by
  have := flip_fin ⟨x.toNat, by omega⟩ ⟨j, h⟩
  simp only [show ((x.toNat : Nat) : Int) = x by omega] at this
  exact this
theorem bw_range {j : Nat} (h : j < 8) : 1 ≤ bw j ∧ bw j ≤ 128 := by
  have : ∀ j : Fin 8, 1 ≤ bw j.val ∧ bw j.val ≤ 128 := by decide
  exact this ⟨j, h⟩
theorem flip_diff (x : Int) (j : Nat) : flip8 x j = x - bw j ∨ flip8 x j = x + bw j := by
  unfold flip8
  split
  · exact .inl rfl
  · exact .inr rfl
theorem tot_set : ∀ (l : List Int) (b : Bool) (i : Nat) (v : Int), i < l.length → tot b (l.set i v) = tot b l + (v - l.getD i 0) ∨ tot b (l.set i v) = tot b l + 256 * (v - l.getD i 0)
  | [], _, _, _, h => absurd h (by simp)
  | x :: l, b, 0, v, _ => by
    cases b
    · refine .inl ?_
      show v + tot true l = x + tot true l + (v - x)
      omega
    · refine .inr ?_
      show 256 * v + tot false l = 256 * x + tot false l + 256 * (v - x)
      omega
  | x :: l, b, i + 1, v, h => by
    have hi : i < l.length := by simpa using h
    have e : (x :: l).getD (i + 1) 0 = l.getD i 0 := rfl
    rw [List.set_cons_succ, e]
    cases b
    · have := tot_set l true i v hi
      simp only [tot]
      omega
    · have := tot_set l false i v hi
      simp only [tot]
      omega
theorem flip_sum {l : List Int} (hl : Bytes l) {i j : Nat} (hi : i < l.length) (hj : j < 8) (h : S (tot true l) = 65535) : S (tot true (l.set i (flip8 (l.getD i 0) j))) ≠ 65535 := by
  intro h2
  have hv := flip_ok (hl.getD i).1 (hl.getD i).2 hj
  have n1 := tot_nonneg (b := true) hl
  have n2 := tot_nonneg (b := true) (hl.set i (v := flip8 (l.getD i 0) j) ⟨hv.2.1, hv.2.2⟩)
  have m1 := S_mod n1
  have m2 := S_mod n2
  rw [h] at m1
  rw [h2] at m2
  have t := tot_set l true i (flip8 (l.getD i 0) j) hi
  have d := flip_diff (l.getD i 0) j
  have w := bw_range hj
  generalize tot true (l.set i (flip8 (l.getD i 0) j)) = A at *
  generalize tot true l = B at *
  generalize flip8 (l.getD i 0) j = v at *
  generalize l.getD i 0 = x at *
  omega
end Go.Proofs.YtmjhfkjnnpnoaaaX
