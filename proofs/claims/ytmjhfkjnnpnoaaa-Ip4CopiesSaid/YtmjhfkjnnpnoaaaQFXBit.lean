/- Bits of words of two and of four bytes; words of a list of bytes; what word, long, putWord, putLong of the printed program answer.
   Conditions: numbers are of their kind; every statement is proved here. -/
import Derived.Test.YtmjhfkjnnpnoaaaQFXSum
import Derived.Test.YtmjhfkjnnpnoaaaQFXAx8
import Derived.Test.YtmjhfkjnnpnoaaaQFXAx0
namespace Go.Proofs.YtmjhfkjnnpnoaaaX
open Go.RowKit Go.Proofs.Ytmjhfkjnnpnoaaa.XA Go.Proofs.YtmjhfkjnnpnoaaaW.PrintWords Go.Proofs.YtmjhfkjnnpnoaaaW.PrintLast Go.Proofs.YtmjhfkjnnpnoaaaW.PrintMore
set_option linter.unusedVariables false
set_option linter.unusedSimpArgs false

theorem nat_and_bit (n i : Nat) : n &&& 2 ^ i = if n / 2 ^ i % 2 = 1 then 2 ^ i else 0 := by
  refine Nat.eq_of_testBit_eq fun j => ?_
  rw [Nat.testBit_and, Nat.testBit_two_pow]
  by_cases h : i = j
  · subst h
    rw [Nat.testBit_eq_decide_div_mod_eq]
    by_cases hb : n / 2 ^ i % 2 = 1
    · rw [if_pos hb, Nat.testBit_two_pow]; simp [hb]
    · rw [if_neg hb]; simp [hb]
  · by_cases hb : n / 2 ^ i % 2 = 1
    · rw [if_pos hb, Nat.testBit_two_pow]; simp [h]
    · rw [if_neg hb]; simp [h]
theorem and_128 {x : Int} (h0 : 0 ≤ x) (h1 : x ≤ 255) : Go.bits .and .u8 x 128 = 0 ↔ x < 128 := by
  obtain ⟨n, rfl⟩ := Int.eq_ofNat_of_zero_le h0
  rw [u8_and (n : Int) 128 (by omega) (by omega) (by omega) (by omega), Int.toNat_natCast, show (128 : Int).toNat = 2 ^ 7 from rfl, nat_and_bit]
  by_cases h : n / 2 ^ 7 % 2 = 1
  · rw [if_pos h]; omega
  · rw [if_neg h]; omega

end Go.Proofs.YtmjhfkjnnpnoaaaX
