/- Bits of words of two and of four bytes; words of a list of bytes; what word, long, putWord, putLong of the printed program answer.
   Conditions: numbers are of their kind; every statement is proved here. -/
import Derived.Test.YtbacmhegalncjaaQIXSum
import Derived.Test.YtbacmhegalncjaaQIXBx7
import Derived.Test.YtbacmhegalncjaaQIXBx8
import Derived.Test.YtbacmhegalncjaaQIXBx5
import Derived.Test.YtbacmhegalncjaaQIXBx3
namespace Go.Proofs.YtbacmhegalncjaaX
open Go.RowKit Go.Proofs.Ytbacmhegalncjaa.XB Go.Proofs.YtbacmhegalncjaaW.PrintWords Go.Proofs.YtbacmhegalncjaaW.PrintLast Go.Proofs.YtbacmhegalncjaaW.PrintMore
set_option linter.unusedVariables false
set_option linter.unusedSimpArgs false

theorem wraps_u32 (n : Int) (h0 : 0 ≤ n) (h1 : n < 2 ^ 32) : IntKind.u32.wrap n = n := by
  simp only [IntKind.wrap, IntKind.bits, IntKind.signed]
  simp
  omega
theorem wraps_i64 (n : Int) (h0 : 0 ≤ n) (h1 : n < 2 ^ 63) : IntKind.i64.wrap n = n := by
  simp only [IntKind.wrap, IntKind.bits, IntKind.signed]
  simp
  omega
theorem nat_and_bit (n i : Nat) : n &&& 2 ^ i = if n / 2 ^ i % 2 = 1 then 2 ^ i else 0 := by
  refine Nat.eq_of_testBit_eq fun j => ?_
  rw [Nat.testBit_and, Nat.testBit_two_pow]
  by_cases h : i = j
  · subst h
    rw [Nat.testBit_eq_decide_div_mod_eq]
    by_cases hb : n / 2 ^ i % 2 = 1
    · rw [if_pos hb, Nat.testBit_two_pow]; simp [hb]
    · rw [if_neg hb]; simp [hb]
  · by_cases hb : n / 2 ^ i % 2 = 1
    · rw [if_pos hb, Nat.testBit_two_pow]; simp [h]
    · rw [if_neg hb]; simp [h]
theorem or16 {h l : Int} (h0 : 0 ≤ h) (h1 : h ≤ 255) (l0 : 0 ≤ l) (l1 : l ≤ 255) : Go.bits .or .u16 (h * 256) l = h * 256 + l :=
  bits_join .u16 16 (by decide) wraps_u16 8 (h * 256) l (by omega) (by omega) (by omega) (by omega) (by omega) (by omega)
theorem or32 {h l : Int} (h0 : 0 ≤ h) (h1 : h ≤ 65535) (l0 : 0 ≤ l) (l1 : l ≤ 65535) : Go.bits .or .u32 (h * 65536) l = h * 65536 + l :=
  bits_join .u32 32 (by decide) wraps_u32 16 (h * 65536) l (by omega) (by omega) (by omega) (by omega) (by omega) (by omega)
theorem or64 {l : Int} (l0 : 0 ≤ l) (l1 : l ≤ 63) : Go.bits .or .i64 64 l = 64 + l :=
  bits_join .i64 63 (by decide) wraps_i64 6 64 l (by omega) (by omega) (by omega) (by omega) (by omega) (by omega)
theorem or_df {x : Int} (h0 : 0 ≤ x) (h1 : x < 8192) : Go.bits .or .u16 x 16384 = x + 16384 := by
  rw [u16_or x 16384 h0 (by omega) (by omega) (by omega), Nat.or_comm, ← u16_or 16384 x (by omega) (by omega) h0 (by omega),
    bits_join .u16 16 (by decide) wraps_u16 14 16384 x (by omega) (by omega) (by omega) (by omega) (by omega) (by omega)]
  omega
theorem or_mf {x : Int} (h0 : 0 ≤ x) (h1 : x < 8192) : Go.bits .or .u16 x 8192 = x + 8192 := by
  rw [u16_or x 8192 h0 (by omega) (by omega) (by omega), Nat.or_comm, ← u16_or 8192 x (by omega) (by omega) h0 (by omega),
    bits_join .u16 16 (by decide) wraps_u16 13 8192 x (by omega) (by omega) (by omega) (by omega) (by omega) (by omega)]
  omega
theorem or_both {x : Int} (h0 : 0 ≤ x) (h1 : x < 8192) : Go.bits .or .u16 (x + 16384) 8192 = x + 24576 := by
  obtain ⟨n, rfl⟩ := Int.eq_ofNat_of_zero_le h0
  have hn : n < 8192 := by omega
  rw [u16_or _ 8192 (by omega) (by omega) (by omega) (by omega)]
  have e : ((n : Int) + 16384).toNat = 2 ^ 14 * 1 + n := by omega
  rw [e, Nat.two_pow_add_eq_or_of_lt (by omega : n < 2 ^ 14) 1, show (8192 : Int).toNat = 8192 from rfl, Nat.or_comm, ← Nat.or_assoc, show 8192 ||| 2 ^ 14 * 1 = 2 ^ 13 * 3 by decide, ← Nat.two_pow_add_eq_or_of_lt (by omega : n < 2 ^ 13) 3]
  omega
theorem and_bit {i : Nat} {x : Int} (h0 : 0 ≤ x) (h1 : x ≤ 65535) (hi : i < 16) : Go.bits .and .u16 x ((2 ^ i : Nat) : Int) = if x / ((2 ^ i : Nat) : Int) % 2 = 1 then ((2 ^ i : Nat) : Int) else 0 := by
  obtain ⟨n, rfl⟩ := Int.eq_ofNat_of_zero_le h0
  have hp : 2 ^ i < 65536 := by
    have : 2 ^ i < 2 ^ 16 := Nat.pow_lt_pow_right (by omega) hi
    omega
  generalize hq : (2 ^ i : Nat) = q at *
  rw [u16_and (n : Int) _ (by omega) (by omega) (by omega) (by omega), Int.toNat_natCast, Int.toNat_natCast, ← hq, nat_and_bit, hq]
  by_cases h : n / q % 2 = 1
  · rw [if_pos h, if_pos (by exact_mod_cast h)]
  · rw [if_neg h, if_neg (by exact_mod_cast h)]; rfl
theorem and_top {x : Int} (h0 : 0 ≤ x) (h1 : x ≤ 65535) : Go.bits .and .u16 x 32768 = 0 ↔ x < 32768 := by
  have := and_bit (i := 15) h0 h1 (by decide)
  rw [show ((2 ^ 15 : Nat) : Int) = 32768 from rfl] at this
  rw [this]
  split <;> omega
theorem and_df {x : Int} (h0 : 0 ≤ x) (h1 : x ≤ 65535) : (Go.bits .and .u16 x 16384 != 0) = decide (x / 16384 % 2 = 1) := by
  have := and_bit (i := 14) h0 h1 (by decide)
  rw [show ((2 ^ 14 : Nat) : Int) = 16384 from rfl] at this
  rw [this]
  split
  · simp [*]
  · simp [*]
theorem and_mf {x : Int} (h0 : 0 ≤ x) (h1 : x ≤ 65535) : (Go.bits .and .u16 x 8192 != 0) = decide (x / 8192 % 2 = 1) := by
  have := and_bit (i := 13) h0 h1 (by decide)
  rw [show ((2 ^ 13 : Nat) : Int) = 8192 from rfl] at this
  rw [this]
  split
  · simp [*]
  · simp [*]
theorem and_off {x : Int} (h0 : 0 ≤ x) (h1 : x ≤ 65535) : Go.bits .and .u16 x 8191 = x % 8192 := bits_mask .u16 16 (by decide) wraps_u16 13 (by decide) x h0 (by omega)
theorem and_15 {x : Int} (h0 : 0 ≤ x) (h1 : x ≤ 255) : Go.bits .and .u8 x 15 = x % 16 := bits_mask .u8 8 (by decide) wraps_u8 4 (by decide) x h0 (by omega)
/-- The word of two bytes from place i on; the number of four. -/
def wd (b : List Int) (i : Nat) : Int := b.getD i 0 * 256 + b.getD (i + 1) 0
def lg (b : List Int) (i : Nat) : Int := wd b i * 65536 + wd b (i + 2)
theorem wd_range {b : List Int} (h : Bytes b) (i : Nat) : 0 ≤ wd b i ∧ wd b i ≤ 65535 := by
  have h0 := h.getD i
  have h1 := h.getD (i + 1)
  unfold wd
  omega
theorem lg_range {b : List Int} (h : Bytes b) (i : Nat) : 0 ≤ lg b i ∧ lg b i ≤ 4294967295 := by
  have h0 := wd_range h i
  have h1 := wd_range h (i + 2)
  unfold lg
  omega
theorem word_f {b : List Int} (h : Bytes b) {i : Nat} {j : Int} (hj : j = i) (hl : i + 1 < b.length) (hm : i ≤ 1000000) : ip4_word.f b j = some (wd b i) := by
  subst hj
  have h0 := h.getD i
  have h1 := h.getD (i + 1)
  have hw : wrap64 ((i : Int) + 1) = ((i + 1 : Nat) : Int) := by rw [w64 (by omega) (by omega)]; omega
  rw [ip4_word.f, if_pos (by omega), if_pos (by omega), hw, if_pos (by omega), if_pos (by omega), rd_nat, rd_nat]
  simp only [u16_mod]
  rw [show b.getD i 0 % 65536 * 256 % 65536 = b.getD i 0 * 256 by omega, show b.getD (i + 1) 0 % 65536 = b.getD (i + 1) 0 by omega, or16 h0.1 h0.2 h1.1 h1.2]
  rfl
theorem long_f {b : List Int} (h : Bytes b) {i : Nat} {j : Int} (hj : j = i) (hl : i + 3 < b.length) (hm : i ≤ 999000) : ip4_long.f b j = some (lg b i) := by
  have h0 := wd_range h i
  have h1 := wd_range h (i + 2)
  have hw : wrap64 (j + 2) = ((i + 2 : Nat) : Int) := by rw [w64 (by omega) (by omega)]; omega
  rw [ip4_long.f, word_f h hj (by omega) (by omega), hw, Option.bind_some, word_f h rfl (by omega) (by omega), Option.bind_some]
  rw [show wd b i % 4294967296 * 65536 % 4294967296 = wd b i * 65536 by omega, show wd b (i + 2) % 4294967296 = wd b (i + 2) by omega, or32 h0.1 h0.2 h1.1 h1.2]
  rfl
theorem putWord_f {b : List Int} {i : Nat} {j v : Int} (hj : j = i) (hl : i + 1 < b.length) (hm : i ≤ 1000000) : ip4_putWord.f b j v = some ((b.set i (v / 256 % 256)).set (i + 1) (v % 256)) := by
  subst hj
  have hw : wrap64 ((i : Int) + 1) = ((i + 1 : Nat) : Int) := by rw [w64 (by omega) (by omega)]; omega
  rw [ip4_putWord.f, if_pos (by omega), if_pos (by omega), hw, if_pos (by omega), if_pos (by omega), Int.toNat_natCast, Int.toNat_natCast]
theorem putLong_f {b : List Int} {i : Nat} {j v : Int} (hj : j = i) (hl : i + 3 < b.length) (hm : i ≤ 999000) (h0 : 0 ≤ v) (h1 : v ≤ 4294967295) :
    ip4_putLong.f b j v = some ((((b.set i (v / 16777216)).set (i + 1) (v / 65536 % 256)).set (i + 2) (v / 256 % 256)).set (i + 3) (v % 256)) := by
  have hw : wrap64 (j + 2) = ((i + 2 : Nat) : Int) := by rw [w64 (by omega) (by omega)]; omega
  rw [ip4_putLong.f, putWord_f hj (by omega) (by omega), Option.bind_some, hw, putWord_f rfl (by simp; omega) (by omega), Option.bind_some]
  simp only [u16_mod]
  rw [show v / 65536 % 65536 / 256 % 256 = v / 16777216 by omega, show v / 65536 % 65536 % 256 = v / 65536 % 256 by omega, show v % 65536 / 256 % 256 = v / 256 % 256 by omega, show v % 65536 % 256 = v % 256 by omega]
end Go.Proofs.YtbacmhegalncjaaX
