/- Plain definitions and theorems about numbers, lists and packets; no program in sight.
   Conditions: as told in each. -/
import Derived.Test.YtphbdmafchjjeaaDoorHXMath
import Derived.Laws.Wrap64
namespace Go.Proofs.YtphbdmafchjjeaaDoorX
open Go
set_option linter.unusedVariables false
set_option linter.unusedSimpArgs false
theorem wraps_u32 (n : Int) (h0 : 0 ≤ n) (h1 : n < 2 ^ 32) : IntKind.u32.wrap n = n := by
  simp only [IntKind.wrap, IntKind.bits, IntKind.signed]
  simp
  omega
theorem u32_mod (n : Int) : IntKind.u32.wrap n = n % 4294967296 := by
  simp only [IntKind.wrap, IntKind.bits, IntKind.signed]
  simp
theorem wraps_i64 (n : Int) (h0 : 0 ≤ n) (h1 : n < 2 ^ 63) : IntKind.i64.wrap n = n := by
  simp only [IntKind.wrap, IntKind.bits, IntKind.signed]
  simp
  omega
theorem nat_and_bit (n i : Nat) : n &&& 2 ^ i = if n / 2 ^ i % 2 = 1 then 2 ^ i else 0 := by
  refine Nat.eq_of_testBit_eq fun j => ?_
  rw [Nat.testBit_and, Nat.testBit_two_pow]
  by_cases h : i = j
  · subst h
    rw [Nat.testBit_eq_decide_div_mod_eq]
    by_cases hb : n / 2 ^ i % 2 = 1
    · rw [if_pos hb, Nat.testBit_two_pow]; simp [hb]
    · rw [if_neg hb]; simp [hb]
  · by_cases hb : n / 2 ^ i % 2 = 1
    · rw [if_pos hb, Nat.testBit_two_pow]; simp [h]
    · rw [if_neg hb]; simp [h]
theorem or16 {h l : Int} (h0 : 0 ≤ h) (h1 : h ≤ 255) (l0 : 0 ≤ l) (l1 : l ≤ 255) : Go.bits .or .u16 (h * 256) l = h * 256 + l :=
  bits_join .u16 16 (by decide) wraps_u16 8 (h * 256) l (by omega) (by omega) (by omega) (by omega) (by omega) (by omega)
theorem or32 {h l : Int} (h0 : 0 ≤ h) (h1 : h ≤ 65535) (l0 : 0 ≤ l) (l1 : l ≤ 65535) : Go.bits .or .u32 (h * 65536) l = h * 65536 + l :=
  bits_join .u32 32 (by decide) wraps_u32 16 (h * 65536) l (by omega) (by omega) (by omega) (by omega) (by omega) (by omega)
theorem or64 {l : Int} (l0 : 0 ≤ l) (l1 : l ≤ 63) : Go.bits .or .i64 64 l = 64 + l :=
  bits_join .i64 63 (by decide) wraps_i64 6 64 l (by omega) (by omega) (by omega) (by omega) (by omega) (by omega)
theorem or_df {x : Int} (h0 : 0 ≤ x) (h1 : x < 8192) : Go.bits .or .u16 x 16384 = x + 16384 := by
  rw [u16_or x 16384 h0 (by omega) (by omega) (by omega), Nat.or_comm, ← u16_or 16384 x (by omega) (by omega) h0 (by omega),
    bits_join .u16 16 (by decide) wraps_u16 14 16384 x (by omega) (by omega) (by omega) (by omega) (by omega) (by omega)]
  omega
theorem or_mf {x : Int} (h0 : 0 ≤ x) (h1 : x < 8192) : Go.bits .or .u16 x 8192 = x + 8192 := by
  rw [u16_or x 8192 h0 (by omega) (by omega) (by omega), Nat.or_comm, ← u16_or 8192 x (by omega) (by omega) h0 (by omega),
    bits_join .u16 16 (by decide) wraps_u16 13 8192 x (by omega) (by omega) (by omega) (by omega) (by omega) (by omega)]
  omega
theorem or_both {x : Int} (h0 : 0 ≤ x) (h1 : x < 8192) : Go.bits .or .u16 (x + 16384) 8192 = x + 24576 := by
  obtain ⟨n, rfl⟩ := Int.eq_ofNat_of_zero_le h0
  have hn : n < 8192 := by omega
  rw [u16_or _ 8192 (by omega) (by omega) (by omega) (by omega)]
  have e : ((n : Int) + 16384).toNat = 2 ^ 14 * 1 + n := by omega
  rw [e, Nat.two_pow_add_eq_or_of_lt (by omega : n < 2 ^ 14) 1, show (8192 : Int).toNat = 8192 from rfl, Nat.or_comm, ← Nat.or_assoc, show 8192 ||| 2 ^ 14 * 1 = 2 ^ 13 * 3 by decide, ← Nat.two_pow_add_eq_or_of_lt (by omega : n < 2 ^ 13) 3]
  omega
theorem and_bit {i : Nat} {x : Int} (h0 : 0 ≤ x) (h1 : x ≤ 65535) (hi : i < 16) : Go.bits .and .u16 x ((2 ^ i : Nat) : Int) = if x / ((2 ^ i : Nat) : Int) % 2 = 1 then ((2 ^ i : Nat) : Int) else 0 := by
  obtain ⟨n, rfl⟩ := Int.eq_ofNat_of_zero_le h0
  have hp : 2 ^ i < 65536 := by
    have : 2 ^ i < 2 ^ 16 := Nat.pow_lt_pow_right (by omega) hi
    omega
  generalize hq : (2 ^ i : Nat) = q at *
  rw [u16_and (n : Int) _ (by omega) (by omega) (by omega) (by omega), Int.toNat_natCast, Int.toNat_natCast, ← hq, nat_and_bit, hq]
  by_cases h : n / q % 2 = 1
  · rw [if_pos h, if_pos (by exact_mod_cast h)]
  · rw [if_neg h, if_neg (by exact_mod_cast h)]; rfl
theorem and_top {x : Int} (h0 : 0 ≤ x) (h1 : x ≤ 65535) : Go.bits .and .u16 x 32768 = 0 ↔ x < 32768 := by
  have := and_bit (i := 15) h0 h1 (by decide)
  rw [show ((2 ^ 15 : Nat) : Int) = 32768 from rfl] at this
  rw [this]
  split <;> omega
theorem and_df {x : Int} (h0 : 0 ≤ x) (h1 : x ≤ 65535) : (Go.bits .and .u16 x 16384 != 0) = decide (x / 16384 % 2 = 1) := by
  have := and_bit (i := 14) h0 h1 (by decide)
  rw [show ((2 ^ 14 : Nat) : Int) = 16384 from rfl] at this
  rw [this]
  split
  · simp [*]
  · simp [*]
theorem and_mf {x : Int} (h0 : 0 ≤ x) (h1 : x ≤ 65535) : (Go.bits .and .u16 x 8192 != 0) = decide (x / 8192 % 2 = 1) := by
  have := and_bit (i := 13) h0 h1 (by decide)
  rw [show ((2 ^ 13 : Nat) : Int) = 8192 from rfl] at this
  rw [this]
  split
  · simp [*]
  · simp [*]
theorem and_off {x : Int} (h0 : 0 ≤ x) (h1 : x ≤ 65535) : Go.bits .and .u16 x 8191 = x % 8192 := bits_mask .u16 16 (by decide) wraps_u16 13 (by decide) x h0 (by omega)
theorem and_15 {x : Int} (h0 : 0 ≤ x) (h1 : x ≤ 255) : Go.bits .and .u8 x 15 = x % 16 := bits_mask .u8 8 (by decide) wraps_u8 4 (by decide) x h0 (by omega)
theorem and_128 {x : Int} (h0 : 0 ≤ x) (h1 : x ≤ 255) : Go.bits .and .u8 x 128 = 0 ↔ x < 128 := by
  obtain ⟨n, rfl⟩ := Int.eq_ofNat_of_zero_le h0
  rw [u8_and (n : Int) 128 (by omega) (by omega) (by omega) (by omega), Int.toNat_natCast, show (128 : Int).toNat = 2 ^ 7 from rfl, nat_and_bit]
  by_cases h : n / 2 ^ 7 % 2 = 1
  · rw [if_pos h]; omega
  · rw [if_neg h]; omega

/-- The word of two bytes from place i on; the number of four. -/
def wd (b : List Int) (i : Nat) : Int := b.getD i 0 * 256 + b.getD (i + 1) 0
def lg (b : List Int) (i : Nat) : Int := wd b i * 65536 + wd b (i + 2)
theorem wd_range {b : List Int} (h : Bytes b) (i : Nat) : 0 ≤ wd b i ∧ wd b i ≤ 65535 := by
  have h0 := h.getD i
  have h1 := h.getD (i + 1)
  unfold wd
  omega
theorem lg_range {b : List Int} (h : Bytes b) (i : Nat) : 0 ≤ lg b i ∧ lg b i ≤ 4294967295 := by
  have h0 := wd_range h i
  have h1 := wd_range h (i + 2)
  unfold lg
  omega
/-- May these be an area's options, from here on? -/
def area : List Int → Bool
  | [] => true
  | [x] => decide (x = 0 ∨ x = 1)
  | x :: n :: l => if x = 0 then (n :: l).all (· == 0) else if x = 1 then area (n :: l) else if n < 2 ∨ n.toNat - 2 > l.length then false else area (l.drop (n.toNat - 2))
termination_by l => l.length
decreasing_by all_goals simp only [List.length_cons, List.length_drop]; omega
/-- May this be an area of options? -/
def oOK (o : List Int) : Bool := decide (o.length ≤ 40) && (decide (o.length % 4 = 0) && area o)
theorem oOK_len {o : List Int} (h : oOK o = true) : o.length ≤ 40 ∧ o.length % 4 = 0 := by
  simp [oOK] at h
  exact ⟨h.1, h.2.1⟩

/-- May a piece of that offset and body be? -/
def ordB (off body : Int) (mf : Bool) : Bool := decide (0 ≤ off ∧ off ≤ 65528 ∧ off % 8 = 0 ∧ off + body ≤ 65535) && (!mf || decide (0 < body ∧ body % 8 = 0))
theorem ordB_true {off body : Int} {mf : Bool} (h : ordB off body mf = true) : (0 ≤ off ∧ off ≤ 65528 ∧ off % 8 = 0 ∧ off + body ≤ 65535) ∧ (mf = true → 0 < body ∧ body % 8 = 0) := by
  simp [ordB] at h
  refine ⟨h.1, fun hm => ?_⟩
  rcases h.2 with h2 | h2
  · rw [hm] at h2; cases h2
  · exact h2

/-- A packet. -/
structure Pk where
  tos : Int
  id : Int
  df : Bool
  mf : Bool
  off : Int
  ttl : Int
  proto : Int
  src : Int
  dst : Int
  opts : List Int
  body : List Int
/-- Its fields are of their kinds. -/
structure Pk.Fine (p : Pk) : Prop where
  tos : 0 ≤ p.tos ∧ p.tos ≤ 255
  id : 0 ≤ p.id ∧ p.id ≤ 65535
  off : -9223372036854775808 ≤ p.off ∧ p.off ≤ 9223372036854775807
  ttl : 0 ≤ p.ttl ∧ p.ttl ≤ 255
  proto : 0 ≤ p.proto ∧ p.proto ≤ 255
  src : 0 ≤ p.src ∧ p.src ≤ 4294967295
  dst : 0 ≤ p.dst ∧ p.dst ≤ 4294967295
  opts : Bytes p.opts
  body : Bytes p.body
  lo : p.opts.length ≤ 140737488351232
  lb : p.body.length ≤ 140737488351232
/-- Why it is refused; 0: it is not. -/
def Pk.err (p : Pk) : Int := if oOK p.opts = true then if ordB p.off (p.body.length : Int) p.mf = true then if 20 + p.opts.length + p.body.length ≤ 65535 then 0 else 37 else 36 else 34
def Pk.hl (p : Pk) : Nat := 20 + p.opts.length
def Pk.tl (p : Pk) : Nat := 20 + p.opts.length + p.body.length
def Pk.fl (p : Pk) : Int := p.off / 8 + (if p.df = true then 16384 else 0) + (if p.mf = true then 8192 else 0)
def Pk.h0 (p : Pk) : Int := 64 + (p.hl : Int) / 4
/-- What stands ahead of the sum; what stands behind it, up to the options. -/
def Pk.fr (p : Pk) : List Int := [p.h0, p.tos, (p.tl : Int) / 256 % 256, (p.tl : Int) % 256, p.id / 256 % 256, p.id % 256, p.fl / 256 % 256, p.fl % 256, p.ttl, p.proto]
def Pk.bk (p : Pk) : List Int := [p.src / 16777216, p.src / 65536 % 256, p.src / 256 % 256, p.src % 256, p.dst / 16777216, p.dst / 65536 % 256, p.dst / 256 % 256, p.dst % 256]
/-- The header's sum without its own field; the field. -/
def Pk.T (p : Pk) : Int := tot true (p.fr ++ (p.bk ++ p.opts))
def Pk.sum (p : Pk) : Int := 65535 - S p.T
/-- The header with a sum's field; all bytes. -/
def Pk.head (p : Pk) (s : Int) : List Int := p.fr ++ (s / 256 % 256 :: s % 256 :: (p.bk ++ p.opts))
def Pk.bytes (p : Pk) (s : Int) : List Int := p.head s ++ p.body
theorem Pk.err_zero {p : Pk} (h : p.err = 0) : oOK p.opts = true ∧ ordB p.off (p.body.length : Int) p.mf = true ∧ 20 + p.opts.length + p.body.length ≤ 65535 := by
  unfold Pk.err at h
  by_cases h1 : oOK p.opts = true
  · by_cases h2 : ordB p.off (p.body.length : Int) p.mf = true
    · by_cases h3 : 20 + p.opts.length + p.body.length ≤ 65535
      · exact ⟨h1, h2, h3⟩
      · rw [if_pos h1, if_pos h2, if_neg h3] at h; omega
    · rw [if_pos h1, if_neg h2] at h; omega
  · rw [if_neg h1] at h; omega
theorem Pk.err_of {p : Pk} (h1 : oOK p.opts = true) (h2 : ordB p.off (p.body.length : Int) p.mf = true) (h3 : 20 + p.opts.length + p.body.length ≤ 65535) : p.err = 0 := by
  unfold Pk.err
  rw [if_pos h1, if_pos h2, if_pos h3]
theorem tl_le {p : Pk} (he : p.err = 0) : 20 ≤ p.tl ∧ p.tl ≤ 65535 := by
  have := (Pk.err_zero he).2.2
  unfold Pk.tl
  omega
theorem Pk.fl_range {p : Pk} (h : ordB p.off (p.body.length : Int) p.mf = true) : 0 ≤ p.fl ∧ p.fl ≤ 32767 := by
  have := (ordB_true h).1
  unfold Pk.fl
  split <;> split <;> omega
theorem Pk.fr_bytes {p : Pk} (h : p.Fine) (he : p.err = 0) : Bytes p.fr := by
  obtain ⟨h1, h2, h3⟩ := Pk.err_zero he
  have ho := oOK_len h1
  have hf := Pk.fl_range h2
  unfold Pk.fr Pk.h0 Pk.hl Pk.tl
  exact Bytes.cons (by omega) (Bytes.cons h.tos (Bytes.cons (by omega) (Bytes.cons (by omega) (Bytes.cons (by omega) (Bytes.cons (by omega) (Bytes.cons (by omega) (Bytes.cons (by omega) (Bytes.cons h.ttl (Bytes.cons h.proto Bytes.nil)))))))))
theorem Pk.bk_bytes {p : Pk} (h : p.Fine) : Bytes (p.bk ++ p.opts) := by
  have h1 := h.src
  have h2 := h.dst
  unfold Pk.bk
  exact Bytes.append (Bytes.cons (by omega) (Bytes.cons (by omega) (Bytes.cons (by omega) (Bytes.cons (by omega) (Bytes.cons (by omega) (Bytes.cons (by omega) (Bytes.cons (by omega) (Bytes.cons (by omega) Bytes.nil)))))))) h.opts
theorem Pk.T_pos {p : Pk} (h : p.Fine) (he : p.err = 0) : 0 < p.T := by
  have h1 := Pk.fr_bytes h he
  have h2 := Pk.bk_bytes h
  have ho := oOK_len (Pk.err_zero he).1
  have h3 : Bytes (p.fr ++ (p.bk ++ p.opts)) := h1.append h2
  have h4 := tot_nonneg (b := false) h3.tail
  have h5 : p.T = 256 * p.h0 + tot false ((p.fr ++ (p.bk ++ p.opts)).tail) := rfl
  have h6 : 0 ≤ tot false ((p.fr ++ (p.bk ++ p.opts)).tail) := h4
  rw [h5]
  unfold Pk.h0 Pk.hl
  omega
theorem Pk.T_nonneg {p : Pk} (h : p.Fine) (he : p.err = 0) : 0 ≤ p.T := Int.le_of_lt (Pk.T_pos h he)
theorem Pk.sum_range {p : Pk} (h : p.Fine) (he : p.err = 0) : 0 ≤ p.sum ∧ p.sum ≤ 65534 := by
  have h1 := Pk.T_pos h he
  have h2 := S_range (t := p.T) (by omega)
  have h3 := S_eq_zero (t := p.T) (by omega)
  unfold Pk.sum
  omega
theorem Pk.head_len (p : Pk) (s : Int) : (p.head s).length = 20 + p.opts.length := by simp [Pk.head, Pk.fr, Pk.bk]; omega
theorem Pk.bytes_len (p : Pk) (s : Int) : (p.bytes s).length = p.tl := by
  unfold Pk.bytes Pk.tl
  rw [List.length_append, Pk.head_len]
theorem Pk.head_bytes {p : Pk} (h : p.Fine) (he : p.err = 0) (s : Int) : Bytes (p.head s) := by
  unfold Pk.head
  exact (Pk.fr_bytes h he).append (Bytes.cons (by omega) (Bytes.cons (by omega) (Pk.bk_bytes h)))
theorem Pk.bytes_bytes {p : Pk} (h : p.Fine) (he : p.err = 0) (s : Int) : Bytes (p.bytes s) := (Pk.head_bytes h he s).append h.body
theorem tot_pair (A : List Int) (hA : A.length % 2 = 0) (s : Int) (h0 : 0 ≤ s) (h1 : s ≤ 65535) (B : List Int) : tot true (A ++ (s / 256 % 256 :: s % 256 :: B)) = tot true (A ++ B) + s := by
  rw [tot_even _ _ hA, tot_even _ _ hA]
  simp only [tot]
  omega
theorem Pk.head_tot {p : Pk} {s : Int} (h0 : 0 ≤ s) (h1 : s ≤ 65535) : tot true (p.head s) = p.T + s := tot_pair p.fr (by simp [Pk.fr]) s h0 h1 _

/-- The header's length as its first byte tells it. -/
def hlen (b : List Int) : Nat := (b.getD 0 0 % 16 * 4).toNat
/-- Why the head's lengths are refused; 0: they are not. -/
def badLen (whole : Bool) (b : List Int) : Int :=
  if b.length < 20 then 30 else if b.getD 0 0 / 16 ≠ 4 then 31 else if hlen b < 20 then 32 else if b.length < hlen b then 30 else if wd b 2 < hlen b then 32 else if whole = true ∧ (b.length : Int) < wd b 2 then 30 else 0
/-- Why a packet's bytes are refused; 0: they are not. -/
def bad (whole : Bool) (b : List Int) : Int :=
  if badLen whole b ≠ 0 then badLen whole b else if 65535 - S (tot true (b.take (hlen b))) ≠ 0 then 33 else if 32768 ≤ wd b 6 then 32 else if ¬ oOK ((b.take (hlen b)).drop 20) = true then 34
  else if ¬ ordB (wd b 6 % 8192 * 8) (wd b 2 - hlen b) (decide (wd b 6 / 8192 % 2 = 1)) = true then 36 else 0
/-- The head's fields, with something behind them; a head of zeros. -/
def hdF {β : Type} (b : List Int) (z : β) : Int × Int × Bool × Bool × Int × Int × Int × Int × Int × β :=
  (b.getD 1 0, wd b 4, decide (wd b 6 / 16384 % 2 = 1), decide (wd b 6 / 8192 % 2 = 1), wd b 6 % 8192 * 8, b.getD 8 0, b.getD 9 0, lg b 12, lg b 16, z)
def hd0 {β : Type} (z : β) : Int × Int × Bool × Bool × Int × Int × Int × Int × Int × β := (0, 0, false, false, 0, 0, 0, 0, 0, z)

theorem badLen_zero {whole : Bool} {b : List Int} (h : badLen whole b = 0) : 20 ≤ b.length ∧ b.getD 0 0 / 16 = 4 ∧ 20 ≤ hlen b ∧ hlen b ≤ b.length ∧ (hlen b : Int) ≤ wd b 2 ∧ (whole = true → wd b 2 ≤ b.length) := by
  unfold badLen at h
  by_cases h1 : b.length < 20
  · rw [if_pos h1] at h; omega
  rw [if_neg h1] at h
  by_cases h2 : b.getD 0 0 / 16 ≠ 4
  · rw [if_pos h2] at h; omega
  rw [if_neg h2] at h
  by_cases h3 : hlen b < 20
  · rw [if_pos h3] at h; omega
  rw [if_neg h3] at h
  by_cases h4 : b.length < hlen b
  · rw [if_pos h4] at h; omega
  rw [if_neg h4] at h
  by_cases h5 : wd b 2 < hlen b
  · rw [if_pos h5] at h; omega
  rw [if_neg h5] at h
  by_cases h6 : whole = true ∧ (b.length : Int) < wd b 2
  · rw [if_pos h6] at h; omega
  exact ⟨by omega, Decidable.of_not_not h2, by omega, by omega, by omega, fun hw => by rcases Int.lt_or_le (b.length : Int) (wd b 2) with h | h; exact absurd ⟨hw, h⟩ h6; exact h⟩
theorem bad_zero {whole : Bool} {b : List Int} (h : bad whole b = 0) : badLen whole b = 0 ∧ S (tot true (b.take (hlen b))) = 65535 ∧ wd b 6 < 32768 ∧ oOK ((b.take (hlen b)).drop 20) = true ∧
    ordB (wd b 6 % 8192 * 8) (wd b 2 - hlen b) (decide (wd b 6 / 8192 % 2 = 1)) = true := by
  unfold bad at h
  by_cases h1 : badLen whole b ≠ 0
  · rw [if_pos h1] at h; exact absurd h h1
  rw [if_neg h1] at h
  by_cases h2 : 65535 - S (tot true (b.take (hlen b))) ≠ 0
  · rw [if_pos h2] at h; omega
  rw [if_neg h2] at h
  by_cases h3 : 32768 ≤ wd b 6
  · rw [if_pos h3] at h; omega
  rw [if_neg h3] at h
  by_cases h4 : ¬ oOK ((b.take (hlen b)).drop 20) = true
  · rw [if_pos h4] at h; omega
  rw [if_neg h4] at h
  by_cases h5 : ¬ ordB (wd b 6 % 8192 * 8) (wd b 2 - hlen b) (decide (wd b 6 / 8192 % 2 = 1)) = true
  · rw [if_pos h5] at h; omega
  exact ⟨Decidable.of_not_not h1, by omega, by omega, Decidable.of_not_not h4, Decidable.of_not_not h5⟩
theorem bad_of {whole : Bool} {b : List Int} (h1 : badLen whole b = 0) (h2 : S (tot true (b.take (hlen b))) = 65535) (h3 : wd b 6 < 32768) (h4 : oOK ((b.take (hlen b)).drop 20) = true)
    (h5 : ordB (wd b 6 % 8192 * 8) (wd b 2 - hlen b) (decide (wd b 6 / 8192 % 2 = 1)) = true) : bad whole b = 0 := by
  unfold bad
  rw [if_neg (by omega), if_neg (by omega), if_neg (by omega), if_neg (by simp [h4]), if_neg (by simp [h5])]
theorem badLen_of {whole : Bool} {b : List Int} (h1 : 20 ≤ b.length) (h2 : b.getD 0 0 / 16 = 4) (h3 : 20 ≤ hlen b) (h4 : hlen b ≤ b.length) (h5 : (hlen b : Int) ≤ wd b 2) (h6 : whole = true → wd b 2 ≤ b.length) : badLen whole b = 0 := by
  unfold badLen
  rw [if_neg (by omega), if_neg (by omega), if_neg (by omega), if_neg (by omega), if_neg (by omega), if_neg (fun h => by have := h6 h.1; omega)]

/-- The options and the body that a packet's bytes hold. -/
def optsOf (b : List Int) : List Int := (b.take (hlen b)).drop 20
def bodyOf (b : List Int) : List Int := (b.take (wd b 2).toNat).drop (hlen b)
theorem hlen_le {b : List Int} (hb : Bytes b) : hlen b ≤ 60 := by
  have g0 := hb.getD 0
  unfold hlen
  omega
/-- How many bytes of the packet are there. -/
def there (b : List Int) : Nat := min (wd b 2).toNat b.length
/-- What follows from a packet's bytes with a right sum in them, whatever lies behind. -/
structure Reads (p : Pk) (b : List Int) : Prop where
  whole : bad true b = 0
  front : bad false b = 0
  head : ∀ {β : Type} (z : β), hdF b z = (p.tos, p.id, p.df, p.mf, p.off, p.ttl, p.proto, p.src, p.dst, z)
  opts : optsOf b = p.opts
  body : bodyOf b = p.body
  rest : (b.take (there b)).drop (hlen b) = p.body
theorem tdiv_bits (p : Pk) (h : ordB p.off (p.body.length : Int) p.mf = true) : p.fl % 8192 = p.off / 8 ∧ decide (p.fl / 16384 % 2 = 1) = p.df ∧ decide (p.fl / 8192 % 2 = 1) = p.mf := by
  have := (ordB_true h).1
  have h0 : 0 ≤ p.off / 8 := by omega
  have h1 : p.off / 8 < 8192 := by omega
  unfold Pk.fl
  cases hd : p.df <;> cases hm : p.mf <;> simp <;> omega
theorem reads_bytes {p : Pk} (h : p.Fine) (he : p.err = 0) {s : Int} (h0 : 0 ≤ s) (h1 : s ≤ 65535) (hs : S (p.T + s) = 65535) (tail : List Int) : Reads p (p.bytes s ++ tail) := by
  obtain ⟨e1, e2, e3⟩ := Pk.err_zero he
  have ho := oOK_len e1
  have hod := (ordB_true e2).1
  have hfl := Pk.fl_range e2
  obtain ⟨hf1, hf2, hf3⟩ := tdiv_bits p e2
  have hid := h.id
  have hsrc := h.src
  have hdst := h.dst
  have g0 : (p.bytes s ++ tail).getD 0 0 = p.h0 := rfl
  have g1 : (p.bytes s ++ tail).getD 1 0 = p.tos := rfl
  have g8 : (p.bytes s ++ tail).getD 8 0 = p.ttl := rfl
  have g9 : (p.bytes s ++ tail).getD 9 0 = p.proto := rfl
  have g2 : wd (p.bytes s ++ tail) 2 = (p.tl : Int) := by
    show (p.tl : Int) / 256 % 256 * 256 + (p.tl : Int) % 256 = (p.tl : Int)
    unfold Pk.tl
    omega
  have g4 : wd (p.bytes s ++ tail) 4 = p.id := by
    show p.id / 256 % 256 * 256 + p.id % 256 = p.id
    omega
  have g6 : wd (p.bytes s ++ tail) 6 = p.fl := by
    show p.fl / 256 % 256 * 256 + p.fl % 256 = p.fl
    omega
  have g12 : lg (p.bytes s ++ tail) 12 = p.src := by
    show (p.src / 16777216 * 256 + p.src / 65536 % 256) * 65536 + (p.src / 256 % 256 * 256 + p.src % 256) = p.src
    omega
  have g16 : lg (p.bytes s ++ tail) 16 = p.dst := by
    show (p.dst / 16777216 * 256 + p.dst / 65536 % 256) * 65536 + (p.dst / 256 % 256 * 256 + p.dst % 256) = p.dst
    omega
  have ghl : hlen (p.bytes s ++ tail) = 20 + p.opts.length := by
    unfold hlen
    rw [g0]
    unfold Pk.h0 Pk.hl
    omega
  have glen : (p.bytes s ++ tail).length = p.tl + tail.length := by rw [List.length_append, Pk.bytes_len]
  have gtl : p.tl = 20 + p.opts.length + p.body.length := rfl
  have gtake : (p.bytes s ++ tail).take (hlen (p.bytes s ++ tail)) = p.head s := by
    rw [ghl]
    unfold Pk.bytes
    rw [List.append_assoc, List.take_left' (Pk.head_len p s)]
  have gopts : optsOf (p.bytes s ++ tail) = p.opts := by
    unfold optsOf
    rw [gtake]
    rfl
  have gall : (p.bytes s ++ tail).take p.tl = p.bytes s := List.take_left' (Pk.bytes_len p s)
  have gbody : bodyOf (p.bytes s ++ tail) = p.body := by
    unfold bodyOf
    rw [g2, Int.toNat_natCast, gall, ghl]
    unfold Pk.bytes
    rw [List.drop_left' (Pk.head_len p s)]
  have gthere : there (p.bytes s ++ tail) = p.tl := by
    unfold there
    rw [g2, Int.toNat_natCast, glen]
    omega
  have hbl : ∀ w, badLen w (p.bytes s ++ tail) = 0 := fun w => badLen_of (by omega) (by rw [g0]; unfold Pk.h0 Pk.hl; omega) (by omega) (by omega) (by omega) (fun _ => by omega)
  have hb : ∀ w, bad w (p.bytes s ++ tail) = 0 := fun w => by
    refine bad_of (hbl w) ?_ (by omega) ?_ ?_
    · rw [gtake, Pk.head_tot h0 h1, hs]
    · show oOK (optsOf (p.bytes s ++ tail)) = true
      rw [gopts]
      exact e1
    · rw [g2, g6, ghl, hf1, hf3]
      have : (p.tl : Int) - ((20 + p.opts.length : Nat) : Int) = (p.body.length : Int) := by omega
      rw [this, show p.off / 8 * 8 = p.off by omega]
      exact e2
  refine ⟨hb true, hb false, fun z => ?_, gopts, gbody, ?_⟩
  · unfold hdF
    rw [g1, g4, g6, g8, g9, g12, g16, hf1, hf2, hf3, show p.off / 8 * 8 = p.off by omega]
  · rw [gthere, gall, ghl]
    unfold Pk.bytes
    rw [List.drop_left' (Pk.head_len p s)]
theorem sum_full {p : Pk} (h : p.Fine) (he : p.err = 0) : S (p.T + p.sum) = 65535 := by
  have h1 := Pk.T_pos h he
  have h2 := Pk.sum_range h he
  have h3 := S_mod (t := p.T) (by omega)
  refine S_full (by omega) ?_
  unfold Pk.sum
  omega

/-- The packet that its bytes hold. -/
def ofB (b : List Int) : Pk where
  tos := b.getD 1 0
  id := wd b 4
  df := decide (wd b 6 / 16384 % 2 = 1)
  mf := decide (wd b 6 / 8192 % 2 = 1)
  off := wd b 6 % 8192 * 8
  ttl := b.getD 8 0
  proto := b.getD 9 0
  src := lg b 12
  dst := lg b 16
  opts := optsOf b
  body := bodyOf b
theorem one_more {b : List Int} {n : Nat} (h : n + 1 ≤ b.length) : ∃ x r, b = x :: r ∧ n ≤ r.length := by
  cases b with
  | nil => simp at h
  | cons x r => exact ⟨x, r, rfl, by simpa using h⟩
theorem twenty {b : List Int} (h : 20 ≤ b.length) : ∃ x0 x1 x2 x3 x4 x5 x6 x7 x8 x9 x10 x11 x12 x13 x14 x15 x16 x17 x18 x19 r, b = x0 :: x1 :: x2 :: x3 :: x4 :: x5 :: x6 :: x7 :: x8 :: x9 :: x10 :: x11 :: x12 :: x13 :: x14 :: x15 :: x16 :: x17 :: x18 :: x19 :: r := by
  obtain ⟨x0, r0, e0, h0⟩ := one_more (n := 19) (b := b) h
  obtain ⟨x1, r1, e1, h1⟩ := one_more (n := 18) (b := r0) h0
  obtain ⟨x2, r2, e2, h2⟩ := one_more (n := 17) (b := r1) h1
  obtain ⟨x3, r3, e3, h3⟩ := one_more (n := 16) (b := r2) h2
  obtain ⟨x4, r4, e4, h4⟩ := one_more (n := 15) (b := r3) h3
  obtain ⟨x5, r5, e5, h5⟩ := one_more (n := 14) (b := r4) h4
  obtain ⟨x6, r6, e6, h6⟩ := one_more (n := 13) (b := r5) h5
  obtain ⟨x7, r7, e7, h7⟩ := one_more (n := 12) (b := r6) h6
  obtain ⟨x8, r8, e8, h8⟩ := one_more (n := 11) (b := r7) h7
  obtain ⟨x9, r9, e9, h9⟩ := one_more (n := 10) (b := r8) h8
  obtain ⟨x10, r10, e10, h10⟩ := one_more (n := 9) (b := r9) h9
  obtain ⟨x11, r11, e11, h11⟩ := one_more (n := 8) (b := r10) h10
  obtain ⟨x12, r12, e12, h12⟩ := one_more (n := 7) (b := r11) h11
  obtain ⟨x13, r13, e13, h13⟩ := one_more (n := 6) (b := r12) h12
  obtain ⟨x14, r14, e14, h14⟩ := one_more (n := 5) (b := r13) h13
  obtain ⟨x15, r15, e15, h15⟩ := one_more (n := 4) (b := r14) h14
  obtain ⟨x16, r16, e16, h16⟩ := one_more (n := 3) (b := r15) h15
  obtain ⟨x17, r17, e17, h17⟩ := one_more (n := 2) (b := r16) h16
  obtain ⟨x18, r18, e18, h18⟩ := one_more (n := 1) (b := r17) h17
  obtain ⟨x19, r19, e19, h19⟩ := one_more (n := 0) (b := r18) h18
  exact ⟨x0, x1, x2, x3, x4, x5, x6, x7, x8, x9, x10, x11, x12, x13, x14, x15, x16, x17, x18, x19, r19, by rw [e0, e1, e2, e3, e4, e5, e6, e7, e8, e9, e10, e11, e12, e13, e14, e15, e16, e17, e18, e19]⟩
structure Holds (b : List Int) : Prop where
  fine : (ofB b).Fine
  err : (ofB b).err = 0
  bytes : b = (ofB b).bytes (wd b 10) ++ b.drop (wd b 2).toNat
  tl : ((ofB b).tl : Int) = wd b 2
  hl : (ofB b).hl = hlen b
  sum : S ((ofB b).T + wd b 10) = 65535
theorem holds {b : List Int} (hb : Bytes b) (hl : b.length ≤ 140737488351232) (h : bad true b = 0) : Holds b := by
  obtain ⟨h1, h2, h3, h4, h5⟩ := bad_zero h
  obtain ⟨a1, a2, a3, a4, a5, a6⟩ := badLen_zero h1
  have a7 := a6 rfl
  have hh := hlen_le hb
  have w2 := wd_range hb 2
  have w4 := wd_range hb 4
  have w6 := wd_range hb 6
  have w10 := wd_range hb 10
  have l12 := lg_range hb 12
  have l16 := lg_range hb 16
  have lo : (optsOf b).length = hlen b - 20 := by unfold optsOf; rw [List.length_drop, List.length_take]; omega
  have lb : ((bodyOf b).length : Int) = wd b 2 - hlen b := by unfold bodyOf; rw [List.length_drop, List.length_take]; omega
  have htl : ((ofB b).tl : Int) = wd b 2 := by
    show ((20 + (optsOf b).length + (bodyOf b).length : Nat) : Int) = wd b 2
    omega
  have hhl : (ofB b).hl = hlen b := by
    show 20 + (optsOf b).length = hlen b
    omega
  have fine : (ofB b).Fine := ⟨hb.getD 1, w4, by show -9223372036854775808 ≤ wd b 6 % 8192 * 8 ∧ wd b 6 % 8192 * 8 ≤ 9223372036854775807; omega, hb.getD 8, hb.getD 9, l12, l16, (hb.take _).drop _, (hb.take _).drop _, by show (optsOf b).length ≤ _; omega, by show (bodyOf b).length ≤ _; omega⟩
  have herr : (ofB b).err = 0 := by
    refine Pk.err_of h4 ?_ ?_
    · show ordB (wd b 6 % 8192 * 8) ((bodyOf b).length : Int) (decide (wd b 6 / 8192 % 2 = 1)) = true
      rw [lb]
      exact h5
    · show 20 + (optsOf b).length + (bodyOf b).length ≤ 65535
      omega
  have hfl : (ofB b).fl = wd b 6 := by
    show wd b 6 % 8192 * 8 / 8 + (if decide (wd b 6 / 16384 % 2 = 1) = true then 16384 else 0) + (if decide (wd b 6 / 8192 % 2 = 1) = true then 8192 else 0) = wd b 6
    simp only [decide_eq_true_eq]
    split <;> split <;> omega
  have hhead : (ofB b).head (wd b 10) = b.take (hlen b) := by
    have hopts : ∀ x0 x1 x2 x3 x4 x5 x6 x7 x8 x9 x10 x11 x12 x13 x14 x15 x16 x17 x18 x19 (r : List Int), b = x0 :: x1 :: x2 :: x3 :: x4 :: x5 :: x6 :: x7 :: x8 :: x9 :: x10 :: x11 :: x12 :: x13 :: x14 :: x15 :: x16 :: x17 :: x18 :: x19 :: r →
        b.take (hlen b) = [x0, x1, x2, x3, x4, x5, x6, x7, x8, x9, x10, x11, x12, x13, x14, x15, x16, x17, x18, x19] ++ optsOf b := by
      intro x0 x1 x2 x3 x4 x5 x6 x7 x8 x9 x10 x11 x12 x13 x14 x15 x16 x17 x18 x19 r hbe
      unfold optsOf
      obtain ⟨m, hm⟩ : ∃ m, hlen b = m + 20 := ⟨hlen b - 20, by omega⟩
      rw [hm, hbe]
      rfl
    have hgo : (ofB b).head (wd b 10) = [(ofB b).h0, b.getD 1 0, ((ofB b).tl : Int) / 256 % 256, ((ofB b).tl : Int) % 256, wd b 4 / 256 % 256, wd b 4 % 256, (ofB b).fl / 256 % 256, (ofB b).fl % 256, b.getD 8 0, b.getD 9 0, wd b 10 / 256 % 256, wd b 10 % 256,
        lg b 12 / 16777216, lg b 12 / 65536 % 256, lg b 12 / 256 % 256, lg b 12 % 256, lg b 16 / 16777216, lg b 16 / 65536 % 256, lg b 16 / 256 % 256, lg b 16 % 256] ++ optsOf b := rfl
    rw [hgo, htl, hfl]
    have hz : (ofB b).h0 = b.getD 0 0 := by
      have g0 := hb.getD 0
      have hx : hlen b = (b.getD 0 0 % 16 * 4).toNat := rfl
      unfold Pk.h0
      rw [hhl]
      omega
    rw [hz]
    obtain ⟨x0, x1, x2, x3, x4, x5, x6, x7, x8, x9, x10, x11, x12, x13, x14, x15, x16, x17, x18, x19, r, hbe⟩ := twenty a1
    rw [hopts x0 x1 x2 x3 x4 x5 x6 x7 x8 x9 x10 x11 x12 x13 x14 x15 x16 x17 x18 x19 r hbe]
    have hbb := hb
    rw [hbe] at hbb
    have q := fun i => hbb.getD i
    have q2 := q 2
    have q3 := q 3
    have q4 := q 4
    have q5 := q 5
    have q6 := q 6
    have q7 := q 7
    have q10 := q 10
    have q11 := q 11
    have q12 := q 12
    have q13 := q 13
    have q14 := q 14
    have q15 := q 15
    have q16 := q 16
    have q17 := q 17
    have q18 := q 18
    have q19 := q 19
    congr 1
    rw [hbe]
    simp only [wd, lg, List.getD_cons_succ, List.getD_cons_zero] at *
    simp only [List.cons.injEq, and_true, true_and]
    refine ⟨?_, ?_, ?_, ?_, ?_, ?_, ?_, ?_, ?_, ?_, ?_, ?_, ?_, ?_, ?_, ?_⟩ <;> omega
  refine ⟨fine, herr, ?_, htl, hhl, ?_⟩
  · unfold Pk.bytes
    rw [hhead]
    show b = b.take (hlen b) ++ (b.take (wd b 2).toNat).drop (hlen b) ++ b.drop (wd b 2).toNat
    have e1 : b.take (hlen b) ++ (b.take (wd b 2).toNat).drop (hlen b) = b.take (wd b 2).toNat := by
      have := List.take_append_drop (hlen b) (b.take (wd b 2).toNat)
      rw [List.take_take, Nat.min_eq_left (by omega)] at this
      exact this
    rw [e1, List.take_append_drop]
  · rw [← Pk.head_tot w10.1 w10.2, hhead]
    exact h2

/-- A packet that is one router on. -/
def older (p : Pk) : Pk := { p with ttl := p.ttl - 1 }
theorem older_fine {p : Pk} (h : p.Fine) (ht : 0 < p.ttl) : (older p).Fine := ⟨h.tos, h.id, h.off, by have := h.ttl; show 0 ≤ p.ttl - 1 ∧ p.ttl - 1 ≤ 255; omega, h.proto, h.src, h.dst, h.opts, h.body, h.lo, h.lb⟩
def smallP : Pk := ⟨3, 7216, false, false, 0, 9, 17, 167838211, 167904004, [131, 3, 4, 0], [1, 2, 3]⟩
theorem small_fine : smallP.Fine := by
  refine ⟨?_, ?_, ?_, ?_, ?_, ?_, ?_, ?_, ?_, ?_, ?_⟩ <;> simp [smallP, Bytes]
theorem small_err : smallP.err = 0 := by
  refine Pk.err_of ?_ ?_ ?_
  · simp [smallP, oOK, area]
  · simp [smallP, ordB]
  · simp [smallP]
theorem pair_getD (A : List Int) (hA : A.length = 10) (s0 s1 t0 t1 : Int) (R : List Int) (i : Nat) (h0 : i ≠ 10) (h1 : i ≠ 11) : (A ++ (s0 :: s1 :: R)).getD i 0 = (A ++ (t0 :: t1 :: R)).getD i 0 := by
  simp only [List.getD_eq_getElem?_getD]
  by_cases h : i < 10
  · rw [List.getElem?_append_left (by omega), List.getElem?_append_left (by omega)]
  · rw [List.getElem?_append_right (by omega), List.getElem?_append_right (by omega), hA]
    obtain ⟨j, hj⟩ : ∃ j, i - 10 = j + 2 := ⟨i - 12, by omega⟩
    rw [hj]
    rfl
theorem bytes_getD (p : Pk) (s t : Int) (i : Nat) (h0 : i ≠ 10) (h1 : i ≠ 11) : (p.bytes s).getD i 0 = (p.bytes t).getD i 0 := by
  unfold Pk.bytes Pk.head
  rw [List.append_assoc, List.append_assoc]
  exact pair_getD p.fr rfl _ _ _ _ _ i h0 h1
theorem wd_sum (p : Pk) {s : Int} (h0 : 0 ≤ s) (h1 : s ≤ 65535) (tail : List Int) : wd (p.bytes s ++ tail) 10 = s := by
  show s / 256 % 256 * 256 + s % 256 = s
  omega
theorem wd_tl (p : Pk) (h : p.tl ≤ 65535) (s : Int) (tail : List Int) : wd (p.bytes s ++ tail) 2 = (p.tl : Int) := by
  show (p.tl : Int) / 256 % 256 * 256 + (p.tl : Int) % 256 = (p.tl : Int)
  omega
theorem right_sum {p : Pk} (h : p.Fine) (he : p.err = 0) {s : Int} (h0 : 0 ≤ s) (h1 : s ≤ 65535) (hs : S (p.T + s) = 65535) : s = p.sum ∨ (s = 65535 ∧ p.sum = 0) := by
  have hT := Pk.T_pos h he
  have m1 := S_mod (t := p.T + s) (by omega)
  have m2 := S_mod (t := p.T) (by omega)
  have m3 := S_range (t := p.T) (by omega)
  have m4 := S_eq_zero (t := p.T) (by omega)
  rw [hs] at m1
  unfold Pk.sum
  generalize S p.T = q at *
  omega
theorem Reads.ofB {p : Pk} {b : List Int} (h : Reads p b) : ofB b = p := by
  have hd := h.head ()
  have h1 := h.opts
  have h2 := h.body
  cases p
  simp only [hdF, Prod.mk.injEq] at hd
  obtain ⟨e1, e2, e3, e4, e5, e6, e7, e8, e9, _⟩ := hd
  unfold Go.Proofs.YtphbdmafchjjeaaDoorX.ofB
  rw [e1, e2, e3, e4, e5, e6, e7, e8, e9, h1, h2]
theorem reads_own {p : Pk} (h : p.Fine) (he : p.err = 0) (tail : List Int) : Reads p (p.bytes p.sum ++ tail) := by
  have := Pk.sum_range h he
  exact reads_bytes h he this.1 (by omega) (sum_full h he) tail
theorem reads_own' {p : Pk} (h : p.Fine) (he : p.err = 0) : Reads p (p.bytes p.sum) := by
  have := reads_own h he []
  rwa [List.append_nil] at this
/-- A bit's weight. -/
def bw (j : Nat) : Int := ((2 ^ j : Nat) : Int)
/-- The byte with that bit turned over. -/
def flip8 (x : Int) (j : Nat) : Int := if x / bw j % 2 = 1 then x - bw j else x + bw j
theorem flip_fin : ∀ x : Fin 256, ∀ j : Fin 8, Go.bits .xor .u8 ((x.val : Nat) : Int) (bw j.val) = flip8 ((x.val : Nat) : Int) j.val ∧ 0 ≤ flip8 ((x.val : Nat) : Int) j.val ∧ flip8 ((x.val : Nat) : Int) j.val ≤ 255 := by decide +kernel
theorem flip_ok {x : Int} (h0 : 0 ≤ x) (h1 : x ≤ 255) {j : Nat} (h : j < 8) : Go.bits .xor .u8 x (bw j) = flip8 x j ∧ 0 ≤ flip8 x j ∧ flip8 x j ≤ 255 := by
  have := flip_fin ⟨x.toNat, by omega⟩ ⟨j, h⟩
  simp only [show ((x.toNat : Nat) : Int) = x by omega] at this
  exact this
theorem bw_range {j : Nat} (h : j < 8) : 1 ≤ bw j ∧ bw j ≤ 128 := by
  have : ∀ j : Fin 8, 1 ≤ bw j.val ∧ bw j.val ≤ 128 := by decide
  exact this ⟨j, h⟩
theorem flip_diff (x : Int) (j : Nat) : flip8 x j = x - bw j ∨ flip8 x j = x + bw j := by
  unfold flip8
  split
  · exact .inl rfl
  · exact .inr rfl
/-- The version's bits. -/
theorem flip_version {x : Int} (h : x / 16 = 4) {j : Nat} (hj : j < 8) (h16 : ¬ bw j < 16) : flip8 x j / 16 ≠ 4 := by
  have : ∀ j : Fin 8, bw j.val = 1 ∨ bw j.val = 2 ∨ bw j.val = 4 ∨ bw j.val = 8 ∨ bw j.val = 16 ∨ bw j.val = 32 ∨ bw j.val = 64 ∨ bw j.val = 128 := by decide
  have h1 := this ⟨j, hj⟩
  have h2 := flip_diff x j
  simp only at h1
  omega
theorem tot_set : ∀ (l : List Int) (b : Bool) (i : Nat) (v : Int), i < l.length → tot b (l.set i v) = tot b l + (v - l.getD i 0) ∨ tot b (l.set i v) = tot b l + 256 * (v - l.getD i 0)
  | [], _, _, _, h => absurd h (by simp)
  | x :: l, b, 0, v, _ => by
    cases b
    · refine .inl ?_
      show v + tot true l = x + tot true l + (v - x)
      omega
    · refine .inr ?_
      show 256 * v + tot false l = 256 * x + tot false l + 256 * (v - x)
      omega
  | x :: l, b, i + 1, v, h => by
    have hi : i < l.length := by simpa using h
    have e : (x :: l).getD (i + 1) 0 = l.getD i 0 := rfl
    rw [List.set_cons_succ, e]
    cases b
    · have := tot_set l true i v hi
      simp only [tot]
      omega
    · have := tot_set l false i v hi
      simp only [tot]
      omega
theorem flip_sum {l : List Int} (hl : Bytes l) {i j : Nat} (hi : i < l.length) (hj : j < 8) (h : S (tot true l) = 65535) : S (tot true (l.set i (flip8 (l.getD i 0) j))) ≠ 65535 := by
  intro h2
  have hv := flip_ok (hl.getD i).1 (hl.getD i).2 hj
  have n1 := tot_nonneg (b := true) hl
  have n2 := tot_nonneg (b := true) (hl.set i (v := flip8 (l.getD i 0) j) ⟨hv.2.1, hv.2.2⟩)
  have m1 := S_mod n1
  have m2 := S_mod n2
  rw [h] at m1
  rw [h2] at m2
  have t := tot_set l true i (flip8 (l.getD i 0) j) hi
  have d := flip_diff (l.getD i 0) j
  have w := bw_range hj
  generalize tot true (l.set i (flip8 (l.getD i 0) j)) = A at *
  generalize tot true l = B at *
  generalize flip8 (l.getD i 0) j = v at *
  generalize l.getD i 0 = x at *
  omega
/-- Over an area's options, one after another. -/
theorem area_ind {P : List Int → Prop} (hnil : P []) (h1 : ∀ x, x = 0 ∨ x = 1 → P [x]) (h0 : ∀ n l, (n :: l).all (· == 0) = true → P (0 :: n :: l)) (hn : ∀ n l, area (n :: l) = true → P (n :: l) → P (1 :: n :: l))
    (ho : ∀ x n l, x ≠ 0 → x ≠ 1 → 2 ≤ n → n.toNat - 2 ≤ l.length → area (l.drop (n.toNat - 2)) = true → P (l.drop (n.toNat - 2)) → P (x :: n :: l)) (d : Nat) : ∀ o : List Int, o.length ≤ d → area o = true → P o := by
  induction d with
  | zero =>
    intro o hl ha
    have : o = [] := List.eq_nil_of_length_eq_zero (by omega)
    subst this
    exact hnil
  | succ d ih =>
    intro o hl ha
    match o, hl, ha with
    | [], _, _ => exact hnil
    | [x], _, ha =>
      rw [area] at ha
      exact h1 x (of_decide_eq_true ha)
    | x :: n :: l, hl, ha =>
      simp only [List.length_cons] at hl
      rw [area] at ha
      by_cases e0 : x = 0
      · rw [if_pos e0] at ha
        subst e0
        exact h0 n l ha
      · rw [if_neg e0] at ha
        by_cases e1 : x = 1
        · rw [if_pos e1] at ha
          subst e1
          exact hn n l ha (ih _ (by simp only [List.length_cons]; omega) ha)
        · rw [if_neg e1] at ha
          by_cases e2 : n < 2 ∨ n.toNat - 2 > l.length
          · rw [if_pos e2] at ha; cases ha
          · rw [if_neg e2] at ha
            exact ho x n l e0 e1 (by omega) (by omega) ha (ih _ (by rw [List.length_drop]; omega) ha)
/-- The options that are carried on. -/
def cop : List Int → List Int
  | [] => []
  | [_] => []
  | x :: n :: l => if x = 0 then [] else if x = 1 then cop (n :: l) else if x < 128 then cop (l.drop (n.toNat - 2)) else x :: n :: (l.take (n.toNat - 2) ++ cop (l.drop (n.toNat - 2)))
termination_by l => l.length
decreasing_by all_goals simp only [List.length_cons, List.length_drop]; omega
/-- With zeros behind. -/
def padZ (n : Nat) : List Int := List.replicate ((4 - n % 4) % 4) 0
def pad (l : List Int) : List Int := l ++ padZ l.length
theorem cop_len {o : List Int} (h : area o = true) : (cop o).length ≤ o.length := by
  refine area_ind (P := fun o => (cop o).length ≤ o.length) ?_ ?_ ?_ ?_ ?_ o.length o (Nat.le_refl _) h
  · simp [cop]
  · intro x hx; simp [cop]
  · intro n l hz; simp [cop]
  · intro n l ha ih
    rw [cop, if_neg (by decide), if_pos rfl]
    simp only [List.length_cons] at *
    omega
  · intro x n l e0 e1 h2 hl ha ih
    rw [cop, if_neg e0, if_neg e1]
    rw [List.length_drop] at ih
    split
    · simp only [List.length_cons]; omega
    · simp only [List.length_cons, List.length_append, List.length_take]; omega
theorem cop_bytes {o : List Int} (h : area o = true) : Bytes o → Bytes (cop o) := by
  refine area_ind (P := fun o => Bytes o → Bytes (cop o)) ?_ ?_ ?_ ?_ ?_ o.length o (Nat.le_refl _) h
  · intro _; simp [cop]; exact Bytes.nil
  · intro x hx _; simp [cop]; exact Bytes.nil
  · intro n l hz _; simp [cop]; exact Bytes.nil
  · intro n l ha ih hb
    rw [cop, if_neg (by decide), if_pos rfl]
    exact ih hb.tail
  · intro x n l e0 e1 h2 hl ha ih hb
    rw [cop, if_neg e0, if_neg e1]
    have h3 := ih (hb.tail.tail.drop _)
    split
    · exact h3
    · exact Bytes.cons hb.head (Bytes.cons hb.tail.head ((hb.tail.tail.take _).append h3))
theorem padZ_bytes (n : Nat) : Bytes (padZ n) := Bytes.replicate _ (by omega)
theorem zeros_area (m : Nat) : area (List.replicate m 0) = true := by
  match m with
  | 0 => simp [area]
  | 1 => simp [area]
  | m + 2 =>
    rw [List.replicate_succ, List.replicate_succ, area, if_pos rfl, List.all_cons, List.all_replicate]
    simp
theorem zeros_cop (m : Nat) : cop (List.replicate m 0) = [] := by
  match m with
  | 0 => simp [cop]
  | 1 => simp [cop]
  | m + 2 => rw [List.replicate_succ, List.replicate_succ, cop, if_pos rfl]
theorem opt_area {x n : Int} {t r : List Int} (e0 : x ≠ 0) (e1 : x ≠ 1) (h2 : 2 ≤ n) (ht : t.length = n.toNat - 2) : area (x :: n :: (t ++ r)) = area r := by
  rw [area, if_neg e0, if_neg e1, if_neg (by rw [List.length_append]; omega), ← ht, List.drop_left' rfl]
theorem opt_cop {x n : Int} {t r : List Int} (e0 : x ≠ 0) (e1 : x ≠ 1) (h2 : 2 ≤ n) (ht : t.length = n.toNat - 2) (h8 : ¬ x < 128) : cop (x :: n :: (t ++ r)) = x :: n :: (t ++ cop r) := by
  rw [cop, if_neg e0, if_neg e1, if_neg h8, ← ht, List.drop_left' rfl, List.take_left' rfl]
theorem cop_area {o : List Int} (h : area o = true) (m : Nat) : area (cop o ++ List.replicate m 0) = true := by
  refine area_ind (P := fun o => area (cop o ++ List.replicate m 0) = true) ?_ ?_ ?_ ?_ ?_ o.length o (Nat.le_refl _) h
  · simpa [cop] using zeros_area m
  · intro x hx; simpa [cop] using zeros_area m
  · intro n l hz; simpa [cop] using zeros_area m
  · intro n l ha ih
    rw [cop, if_neg (by decide), if_pos rfl]
    exact ih
  · intro x n l e0 e1 h2 hl ha ih
    rw [cop, if_neg e0, if_neg e1]
    split
    · exact ih
    · rw [List.cons_append, List.cons_append, List.append_assoc, opt_area e0 e1 h2 (by rw [List.length_take]; omega)]
      exact ih
theorem cop_cop {o : List Int} (h : area o = true) (m : Nat) : cop (cop o ++ List.replicate m 0) = cop o := by
  refine area_ind (P := fun o => cop (cop o ++ List.replicate m 0) = cop o) ?_ ?_ ?_ ?_ ?_ o.length o (Nat.le_refl _) h
  · simpa [cop] using zeros_cop m
  · intro x hx; simpa [cop] using zeros_cop m
  · intro n l hz; simpa [cop] using zeros_cop m
  · intro n l ha ih
    rw [cop, if_neg (by decide), if_pos rfl]
    exact ih
  · intro x n l e0 e1 h2 hl ha ih
    rw [cop, if_neg e0, if_neg e1]
    split
    · exact ih
    · rename_i h8
      rw [List.cons_append, List.cons_append, List.append_assoc, opt_cop e0 e1 h2 (by rw [List.length_take]; omega) h8, ih]
theorem pad_len (l : List Int) : (pad l).length % 4 = 0 ∧ (pad l).length ≤ l.length + 3 ∧ l.length ≤ (pad l).length := by
  unfold pad padZ
  rw [List.length_append, List.length_replicate]
  omega
theorem copied_ok {o : List Int} (h : oOK o = true) : oOK (pad (cop o)) = true ∧ pad (cop (pad (cop o))) = pad (cop o) ∧ (pad (cop o)).length ≤ o.length := by
  obtain ⟨h1, h2⟩ := oOK_len h
  have ha : area o = true := by
    simp [oOK] at h
    exact h.2.2
  have h3 := cop_len ha
  have h4 := pad_len (cop o)
  have h5 : (pad (cop o)).length ≤ o.length := by omega
  refine ⟨?_, ?_, h5⟩
  · unfold oOK
    rw [decide_eq_true (by omega), decide_eq_true h4.1]
    exact cop_area ha _
  · have : cop (pad (cop o)) = cop o := cop_cop ha _
    rw [this]
theorem cons_app (acc t c : List Int) (x n : Int) : acc ++ (x :: n :: (t ++ c)) = (acc ++ x :: n :: t) ++ c := by simp
/-- A message; its bytes with a sum's field. -/
structure Ic where
  typ : Int
  code : Int
  rest : Int
  body : List Int
structure Ic.Fine (c : Ic) : Prop where
  typ : 0 ≤ c.typ ∧ c.typ ≤ 255
  code : 0 ≤ c.code ∧ c.code ≤ 255
  rest : 0 ≤ c.rest ∧ c.rest ≤ 4294967295
  body : Bytes c.body
  lb : c.body.length ≤ 140737488351232
def Ic.behind (c : Ic) : List Int := c.rest / 16777216 % 256 :: c.rest / 65536 % 256 :: c.rest / 256 % 256 :: c.rest % 256 :: c.body
def Ic.bytes (c : Ic) (s : Int) : List Int := c.typ :: c.code :: s / 256 % 256 :: s % 256 :: c.behind
def Ic.T (c : Ic) : Int := tot true (c.typ :: c.code :: c.behind)
def Ic.sum (c : Ic) : Int := 65535 - S c.T
theorem Ic.behind_bytes {c : Ic} (h : c.Fine) : Bytes c.behind := by
  have := h.rest
  exact Bytes.cons (by omega) (Bytes.cons (by omega) (Bytes.cons (by omega) (Bytes.cons (by omega) h.body)))
theorem Ic.bytes_bytes {c : Ic} (h : c.Fine) (s : Int) : Bytes (c.bytes s) := Bytes.cons h.typ (Bytes.cons h.code (Bytes.cons (by omega) (Bytes.cons (by omega) (Ic.behind_bytes h))))
theorem Ic.T_nonneg {c : Ic} (h : c.Fine) : 0 ≤ c.T := tot_nonneg (Bytes.cons h.typ (Bytes.cons h.code (Ic.behind_bytes h)))
theorem Ic.tot_bytes (c : Ic) {s : Int} (h0 : 0 ≤ s) (h1 : s ≤ 65535) : tot true (c.bytes s) = c.T + s := by
  unfold Ic.bytes Ic.T
  simp only [tot]
  omega
theorem Ic.len (c : Ic) (s : Int) : (c.bytes s).length = 8 + c.body.length := by
  simp [Ic.bytes, Ic.behind]
  omega
theorem Ic.sum_range {c : Ic} (h : c.Fine) : 0 ≤ c.sum ∧ c.sum ≤ 65535 := by
  have := S_range (Ic.T_nonneg h)
  unfold Ic.sum
  omega
theorem Ic.sum_full {c : Ic} (h : c.Fine) : S (c.T + c.sum) = 65535 := by
  have h0 := Ic.T_nonneg h
  have h1 := S_mod h0
  have h2 := S_range h0
  have h3 := S_eq_zero h0
  unfold Ic.sum
  refine S_full ?_ ?_ <;> omega
/-- Why a message's bytes are refused; 0: they are not. -/
def icBad (b : List Int) : Int := if b.length < 8 then 30 else if b.length > 65515 then 37 else if S (tot true b) ≠ 65535 then 33 else 0
theorem or_four {a b c d : Int} (ha : 0 ≤ a ∧ a ≤ 255) (hb : 0 ≤ b ∧ b ≤ 255) (hc : 0 ≤ c ∧ c ≤ 255) (hd : 0 ≤ d ∧ d ≤ 255) :
    Go.bits .or .u32 (Go.bits .or .u32 (Go.bits .or .u32 (((a % 4294967296) * 16777216) % 4294967296) (((b % 4294967296) * 65536) % 4294967296)) (((c % 4294967296) * 256) % 4294967296)) (d % 4294967296) = (a * 256 + b) * 65536 + (c * 256 + d) := by
  rw [show a % 4294967296 * 16777216 % 4294967296 = a * 16777216 by omega, show b % 4294967296 * 65536 % 4294967296 = b * 65536 by omega, show c % 4294967296 * 256 % 4294967296 = c * 256 by omega, show d % 4294967296 = d by omega]
  rw [bits_join .u32 32 (by decide) wraps_u32 24 (a * 16777216) (b * 65536) (by omega) (by omega) (by omega) (by omega) (by omega) (by omega)]
  rw [bits_join .u32 32 (by decide) wraps_u32 16 (a * 16777216 + b * 65536) (c * 256) (by omega) (by omega) (by omega) (by omega) (by omega) (by omega)]
  rw [bits_join .u32 32 (by decide) wraps_u32 8 (a * 16777216 + b * 65536 + c * 256) d (by omega) (by omega) (by omega) (by omega) (by omega) (by omega)]
  omega
theorem icBad_zero {b : List Int} (h : icBad b = 0) : 8 ≤ b.length ∧ b.length ≤ 65515 ∧ S (tot true b) = 65535 := by
  unfold icBad at h
  by_cases h1 : b.length < 8
  · rw [if_pos h1] at h; omega
  rw [if_neg h1] at h
  by_cases h2 : b.length > 65515
  · rw [if_pos h2] at h; omega
  rw [if_neg h2] at h
  by_cases h3 : S (tot true b) ≠ 65535
  · rw [if_pos h3] at h; omega
  exact ⟨by omega, by omega, Decidable.of_not_not h3⟩
/-- The place behind the option at a place; -1: none may stand there. -/
def bhd (o : List Int) (i : Nat) : Int :=
  if o.getD i 0 = 1 then ((i + 1 : Nat) : Int) else if o.getD i 0 = 0 then (if (o.drop i).all (· == 0) = true then (o.length : Int) else -1)
  else if o.length ≤ i + 1 then -1 else if o.getD (i + 1) 0 < 2 then -1 else if o.length < i + (o.getD (i + 1) 0).toNat then -1 else ((i + (o.getD (i + 1) 0).toNat : Nat) : Int)
/-- What the next place says of the area. -/
theorem area_next {o : List Int} {i : Nat} (hi : i < o.length) : (bhd o i = -1 ∧ area (o.drop i) = false) ∨ (∃ j : Nat, bhd o i = (j : Int) ∧ i < j ∧ j ≤ o.length ∧ area (o.drop i) = area (o.drop j)) := by
  have e0 : o.getD i 0 = o[i] := by simp [List.getD_eq_getElem?_getD, hi]
  unfold bhd
  rw [e0]
  by_cases h1 : o[i] = 1
  · rw [if_pos h1]
    refine .inr ⟨i + 1, rfl, by omega, by omega, ?_⟩
    rw [List.drop_eq_getElem_cons hi, h1]
    rcases hr : o.drop (i + 1) with _ | ⟨n, m⟩
    · simp [area]
    · rw [area, if_neg (by decide), if_pos rfl]
  rw [if_neg h1]
  by_cases h0 : o[i] = 0
  · rw [if_pos h0]
    by_cases hz : (o.drop i).all (· == 0) = true
    · rw [if_pos hz]
      refine .inr ⟨o.length, rfl, hi, Nat.le_refl _, ?_⟩
      rw [List.drop_eq_nil_of_le (Nat.le_refl _), area]
      rw [List.drop_eq_getElem_cons hi, h0] at hz ⊢
      rcases hr : o.drop (i + 1) with _ | ⟨n, m⟩
      · simp [area]
      · rw [hr] at hz
        rw [area, if_pos rfl]
        simpa using hz
    · rw [if_neg hz]
      refine .inl ⟨rfl, ?_⟩
      rw [List.drop_eq_getElem_cons hi, h0] at hz ⊢
      rcases hr : o.drop (i + 1) with _ | ⟨n, m⟩
      · rw [hr] at hz
        simp at hz
      · rw [hr] at hz
        rw [area, if_pos rfl]
        simpa using hz
  rw [if_neg h0]
  by_cases h2 : o.length ≤ i + 1
  · rw [if_pos h2]
    refine .inl ⟨rfl, ?_⟩
    rw [List.drop_eq_getElem_cons hi, List.drop_eq_nil_of_le h2, area]
    simp [h0, h1]
  rw [if_neg h2]
  have hlt2 : i + 1 < o.length := by omega
  have e1 : o.getD (i + 1) 0 = o[i + 1] := by simp [List.getD_eq_getElem?_getD, hlt2]
  rw [e1]
  have ea : area (o.drop i) = if o[i + 1] < 2 ∨ o[i + 1].toNat - 2 > (o.drop (i + 1 + 1)).length then false else area ((o.drop (i + 1 + 1)).drop (o[i + 1].toNat - 2)) := by
    rw [List.drop_eq_getElem_cons hi, List.drop_eq_getElem_cons hlt2, area, if_neg h0, if_neg h1]
  by_cases h3 : o[i + 1] < 2
  · rw [if_pos h3]
    exact .inl ⟨rfl, by rw [ea, if_pos (.inl h3)]⟩
  rw [if_neg h3]
  by_cases h4 : o.length < i + o[i + 1].toNat
  · rw [if_pos h4]
    refine .inl ⟨rfl, ?_⟩
    rw [ea, if_pos]
    refine .inr ?_
    rw [List.length_drop]
    omega
  rw [if_neg h4]
  refine .inr ⟨i + o[i + 1].toNat, rfl, by omega, by omega, ?_⟩
  rw [ea, if_neg, List.drop_drop, show i + 1 + 1 + (o[i + 1].toNat - 2) = i + o[i + 1].toNat by omega]
  intro h
  rcases h with h | h
  · exact h3 h
  · rw [List.length_drop] at h
    omega
theorem small3_fine : (⟨0, 7216, true, false, 0, 64, 6, 167838211, 167904004, [], [1, 2, 3]⟩ : Pk).Fine := by
  refine ⟨?_, ?_, ?_, ?_, ?_, ?_, ?_, ?_, ?_, ?_, ?_⟩ <;> simp [Bytes]
theorem small3_err : (⟨0, 7216, true, false, 0, 64, 6, 167838211, 167904004, [], [1, 2, 3]⟩ : Pk).err = 0 := by
  refine Pk.err_of ?_ ?_ ?_
  · simp [oOK, area]
  · simp [ordB]
  · simp
theorem tdiv_pos {x : Int} (h : 0 ≤ x / 8) : 0 ≤ x := by omega
theorem flag_top {b : List Int} (hb : Bytes b) : (32768 ≤ wd b 6 ↔ b.getD 6 0 / 32 ≥ 4) ∧ (wd b 6 / 16384 % 2 = b.getD 6 0 / 32 / 2 % 2) ∧ (wd b 6 / 8192 % 2 = b.getD 6 0 / 32 % 2) := by
  have h0 := hb.getD 6
  have h1 := hb.getD 7
  have e : wd b 6 = b.getD 6 0 * 256 + b.getD 7 0 := rfl
  rw [e]
  refine ⟨?_, ?_, ?_⟩ <;> omega
theorem there_whole {b : List Int} (h : bad true b = 0) : there b = (wd b 2).toNat := by
  obtain ⟨a1, a2, a3, a4, a5, a6⟩ := badLen_zero (bad_zero h).1
  have := a6 rfl
  unfold there
  omega
/-- What is carried on from a place. -/
theorem cop_next {o : List Int} {i j : Nat} (hi : i < o.length) (hb : Bytes o) (hbh : bhd o i = (j : Int)) : cop (o.drop i) = (if o.getD i 0 < 128 then [] else (o.take j).drop i) ++ cop (o.drop j) := by
  have e0 : o.getD i 0 = o[i] := by simp [List.getD_eq_getElem?_getD, hi]
  unfold bhd at hbh
  rw [e0] at hbh ⊢
  by_cases h1 : o[i] = 1
  · rw [if_pos h1] at hbh
    have hj : j = i + 1 := by omega
    subst hj
    rw [h1, if_pos (by decide), List.nil_append, List.drop_eq_getElem_cons hi, h1]
    rcases hr : o.drop (i + 1) with _ | ⟨n, m⟩
    · simp [cop]
    · rw [cop, if_neg (by decide), if_pos rfl]
  rw [if_neg h1] at hbh
  by_cases h0 : o[i] = 0
  · rw [if_pos h0] at hbh
    by_cases hz : (o.drop i).all (· == 0) = true
    · rw [if_pos hz] at hbh
      have hj : j = o.length := by omega
      subst hj
      rw [h0, if_pos (by decide), List.nil_append, List.drop_eq_nil_of_le (Nat.le_refl _), List.drop_eq_getElem_cons hi, h0]
      rcases hr : o.drop (i + 1) with _ | ⟨n, m⟩
      · simp [cop]
      · simp [cop]
    · rw [if_neg hz] at hbh
      omega
  rw [if_neg h0] at hbh
  by_cases h2 : o.length ≤ i + 1
  · rw [if_pos h2] at hbh; omega
  rw [if_neg h2] at hbh
  have hlt2 : i + 1 < o.length := by omega
  have e1 : o.getD (i + 1) 0 = o[i + 1] := by simp [List.getD_eq_getElem?_getD, hlt2]
  rw [e1] at hbh
  by_cases h3 : o[i + 1] < 2
  · rw [if_pos h3] at hbh; omega
  rw [if_neg h3] at hbh
  by_cases h4 : o.length < i + o[i + 1].toNat
  · rw [if_pos h4] at hbh; omega
  rw [if_neg h4] at hbh
  have hj : j = i + o[i + 1].toNat := by omega
  have ed : o.drop i = o[i] :: o[i + 1] :: o.drop (i + 1 + 1) := by rw [List.drop_eq_getElem_cons hi, List.drop_eq_getElem_cons hlt2]
  have e2 : (o.drop (i + 1 + 1)).drop (o[i + 1].toNat - 2) = o.drop j := by rw [List.drop_drop, show i + 1 + 1 + (o[i + 1].toNat - 2) = j by omega]
  rw [ed, cop, if_neg h0, if_neg h1, e2]
  by_cases h8 : o[i] < 128
  · rw [if_pos h8, if_pos h8, List.nil_append]
  · rw [if_neg h8, if_neg h8, List.drop_take, ed]
    obtain ⟨m, hm⟩ : ∃ m, o[i + 1].toNat = m + 2 := ⟨o[i + 1].toNat - 2, by omega⟩
    rw [show j - i = m + 2 by omega, hm, List.take_succ_cons, List.take_succ_cons]
    rfl
end Go.Proofs.YtphbdmafchjjeaaDoorX
