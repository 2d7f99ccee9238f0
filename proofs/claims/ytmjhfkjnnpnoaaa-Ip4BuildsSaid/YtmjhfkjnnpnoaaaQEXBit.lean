/- Bits of words of two and of four bytes; words of a list of bytes; what word, long, putWord, putLong of the printed program answer.
   Conditions: numbers are of their kind; every statement is proved here. -/
import Derived.Test.YtmjhfkjnnpnoaaaQEXSum
import Derived.Test.YtmjhfkjnnpnoaaaQEXAx8
import Derived.Test.YtmjhfkjnnpnoaaaQEXAx13
namespace Go.Proofs.YtmjhfkjnnpnoaaaX
open Go.RowKit Go.Proofs.Ytmjhfkjnnpnoaaa.XA Go.Proofs.YtmjhfkjnnpnoaaaW.PrintWords Go.Proofs.YtmjhfkjnnpnoaaaW.PrintLast Go.Proofs.YtmjhfkjnnpnoaaaW.PrintMore
set_option linter.unusedVariables false
set_option linter.unusedSimpArgs false

theorem wraps_i64 (n : Int) (h0 : 0 ≤ n) (h1 : n < 2 ^ 63) : IntKind.i64.wrap n = n := by
  simp only [IntKind.wrap, IntKind.bits, IntKind.signed]
  simp
  omega
theorem or64 {l : Int} (l0 : 0 ≤ l) (l1 : l ≤ 63) : Go.bits .or .i64 64 l = 64 + l :=
  bits_join .i64 63 (by decide) wraps_i64 6 64 l (by omega) (by omega) (by omega) (by omega) (by omega) (by omega)
theorem or_df {x : Int} (h0 : 0 ≤ x) (h1 : x < 8192) : Go.bits .or .u16 x 16384 = x + 16384 := by
  rw [u16_or x 16384 h0 (by omega) (by omega) (by omega), Nat.or_comm, ← u16_or 16384 x (by omega) (by omega) h0 (by omega),
    bits_join .u16 16 (by decide) wraps_u16 14 16384 x (by omega) (by omega) (by omega) (by omega) (by omega) (by omega)]
  omega
theorem or_mf {x : Int} (h0 : 0 ≤ x) (h1 : x < 8192) : Go.bits .or .u16 x 8192 = x + 8192 := by
  rw [u16_or x 8192 h0 (by omega) (by omega) (by omega), Nat.or_comm, ← u16_or 8192 x (by omega) (by omega) h0 (by omega),
    bits_join .u16 16 (by decide) wraps_u16 13 8192 x (by omega) (by omega) (by omega) (by omega) (by omega) (by omega)]
  omega
theorem or_both {x : Int} (h0 : 0 ≤ x) (h1 : x < 8192) : Go.bits .or .u16 (x + 16384) 8192 = x + 24576 := by
  obtain ⟨n, rfl⟩ := Int.eq_ofNat_of_zero_le h0
  have hn : n < 8192 := by omega
  rw [u16_or _ 8192 (by omega) (by omega) (by omega) (by omega)]
  have e : ((n : Int) + 16384).toNat = 2 ^ 14 * 1 + n := by omega
  rw [e, Nat.two_pow_add_eq_or_of_lt (by omega : n < 2 ^ 14) 1, show (8192 : Int).toNat = 8192 from rfl, Nat.or_comm, ← Nat.or_assoc, show 8192 ||| 2 ^ 14 * 1 = 2 ^ 13 * 3 by decide, ← Nat.two_pow_add_eq_or_of_lt (by omega : n < 2 ^ 13) 3]
  omega
theorem putWord_f {b : List Int} {i : Nat} {j v : Int} (hj : j = i) (hl : i + 1 < b.length) (hm : i ≤ 1000000) : ip4_putWord.f b j v = some ((b.set i (v / 256 % 256)).set (i + 1) (v % 256)) := by
  subst hj
  have hw : wrap64 ((i : Int) + 1) = ((i + 1 : Nat) : Int) := by rw [w64 (by omega) (by omega)]; omega
  rw [ip4_putWord.f, if_pos (by omega), if_pos (by omega), hw, if_pos (by omega), if_pos (by omega), Int.toNat_natCast, Int.toNat_natCast]
theorem putLong_f {b : List Int} {i : Nat} {j v : Int} (hj : j = i) (hl : i + 3 < b.length) (hm : i ≤ 999000) (h0 : 0 ≤ v) (h1 : v ≤ 4294967295) :
    ip4_putLong.f b j v = some ((((b.set i (v / 16777216)).set (i + 1) (v / 65536 % 256)).set (i + 2) (v / 256 % 256)).set (i + 3) (v % 256)) := by
  have hw : wrap64 (j + 2) = ((i + 2 : Nat) : Int) := by rw [w64 (by omega) (by omega)]; omega
  rw [ip4_putLong.f, putWord_f hj (by omega) (by omega), Option.bind_some, hw, putWord_f rfl (by simp; omega) (by omega), Option.bind_some]
  simp only [u16_mod]
  rw [show v / 65536 % 65536 / 256 % 256 = v / 16777216 by omega, show v / 65536 % 65536 % 256 = v / 65536 % 256 by omega, show v % 65536 / 256 % 256 = v / 256 % 256 by omega, show v % 65536 % 256 = v % 256 by omega]
end Go.Proofs.YtmjhfkjnnpnoaaaX
