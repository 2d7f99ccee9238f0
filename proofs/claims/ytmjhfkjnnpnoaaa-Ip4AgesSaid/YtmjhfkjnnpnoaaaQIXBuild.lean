/- A packet as plain data, its bytes, and what Build of the printed program answers.
   Conditions: the fields are of their kinds, the lists short enough for 64 bits. -/
import Derived.Test.YtmjhfkjnnpnoaaaQIXArea
import Derived.Test.YtmjhfkjnnpnoaaaQIXAx0
import Derived.Test.YtmjhfkjnnpnoaaaQIXAx1
import Derived.Test.YtmjhfkjnnpnoaaaQIXAx8
import Derived.Test.YtmjhfkjnnpnoaaaQIXAx13
namespace Go.Proofs.YtmjhfkjnnpnoaaaX
open Go.RowKit Go.Proofs.Ytmjhfkjnnpnoaaa.XA Go.Proofs.YtmjhfkjnnpnoaaaW.PrintWords Go.Proofs.YtmjhfkjnnpnoaaaW.PrintLast Go.Proofs.YtmjhfkjnnpnoaaaW.PrintMore
set_option linter.unusedVariables false
set_option linter.unusedSimpArgs false

/-- A packet. -/
structure Pk where
  tos : Int
  id : Int
  df : Bool
  mf : Bool
  off : Int
  ttl : Int
  proto : Int
  src : Int
  dst : Int
  opts : List Int
  body : List Int
/-- Its fields are of their kinds. -/
structure Pk.Fine (p : Pk) : Prop where
  tos : 0 ≤ p.tos ∧ p.tos ≤ 255
  id : 0 ≤ p.id ∧ p.id ≤ 65535
  off : -9223372036854775808 ≤ p.off ∧ p.off ≤ 9223372036854775807
  ttl : 0 ≤ p.ttl ∧ p.ttl ≤ 255
  proto : 0 ≤ p.proto ∧ p.proto ≤ 255
  src : 0 ≤ p.src ∧ p.src ≤ 4294967295
  dst : 0 ≤ p.dst ∧ p.dst ≤ 4294967295
  opts : Bytes p.opts
  body : Bytes p.body
  lo : p.opts.length ≤ 140737488351232
  lb : p.body.length ≤ 140737488351232
/-- Why it is refused; 0: it is not. -/
def Pk.err (p : Pk) : Int := if oOK p.opts = true then if ordB p.off (p.body.length : Int) p.mf = true then if 20 + p.opts.length + p.body.length ≤ 65535 then 0 else 37 else 36 else 34
def Pk.hl (p : Pk) : Nat := 20 + p.opts.length
def Pk.tl (p : Pk) : Nat := 20 + p.opts.length + p.body.length
def Pk.fl (p : Pk) : Int := p.off / 8 + (if p.df = true then 16384 else 0) + (if p.mf = true then 8192 else 0)
def Pk.h0 (p : Pk) : Int := 64 + (p.hl : Int) / 4
/-- What stands ahead of the sum; what stands behind it, up to the options. -/
def Pk.fr (p : Pk) : List Int := [p.h0, p.tos, (p.tl : Int) / 256 % 256, (p.tl : Int) % 256, p.id / 256 % 256, p.id % 256, p.fl / 256 % 256, p.fl % 256, p.ttl, p.proto]
def Pk.bk (p : Pk) : List Int := [p.src / 16777216, p.src / 65536 % 256, p.src / 256 % 256, p.src % 256, p.dst / 16777216, p.dst / 65536 % 256, p.dst / 256 % 256, p.dst % 256]
/-- The header's sum without its own field; the field. -/
def Pk.T (p : Pk) : Int := tot true (p.fr ++ (p.bk ++ p.opts))
def Pk.sum (p : Pk) : Int := 65535 - S p.T
/-- The header with a sum's field; all bytes. -/
def Pk.head (p : Pk) (s : Int) : List Int := p.fr ++ (s / 256 % 256 :: s % 256 :: (p.bk ++ p.opts))
def Pk.bytes (p : Pk) (s : Int) : List Int := p.head s ++ p.body
theorem Pk.err_zero {p : Pk} (h : p.err = 0) : oOK p.opts = true ∧ ordB p.off (p.body.length : Int) p.mf = true ∧ 20 + p.opts.length + p.body.length ≤ 65535 := by
  unfold Pk.err at h
  by_cases h1 : oOK p.opts = true
  · by_cases h2 : ordB p.off (p.body.length : Int) p.mf = true
    · by_cases h3 : 20 + p.opts.length + p.body.length ≤ 65535
      · exact ⟨h1, h2, h3⟩
      · rw [if_pos h1, if_pos h2, if_neg h3] at h; omega
    · rw [if_pos h1, if_neg h2] at h; omega
  · rw [if_neg h1] at h; omega
theorem Pk.err_of {p : Pk} (h1 : oOK p.opts = true) (h2 : ordB p.off (p.body.length : Int) p.mf = true) (h3 : 20 + p.opts.length + p.body.length ≤ 65535) : p.err = 0 := by
  unfold Pk.err
  rw [if_pos h1, if_pos h2, if_pos h3]
theorem tl_le {p : Pk} (he : p.err = 0) : 20 ≤ p.tl ∧ p.tl ≤ 65535 := by
  have := (Pk.err_zero he).2.2
  unfold Pk.tl
  omega
theorem Pk.fl_range {p : Pk} (h : ordB p.off (p.body.length : Int) p.mf = true) : 0 ≤ p.fl ∧ p.fl ≤ 32767 := by
  have := (ordB_true h).1
  unfold Pk.fl
  split <;> split <;> omega
theorem Pk.fr_bytes {p : Pk} (h : p.Fine) (he : p.err = 0) : Bytes p.fr := by
  obtain ⟨h1, h2, h3⟩ := Pk.err_zero he
  have ho := oOK_len h1
  have hf := Pk.fl_range h2
  unfold Pk.fr Pk.h0 Pk.hl Pk.tl
  exact Bytes.cons (by omega) (Bytes.cons h.tos (Bytes.cons (by omega) (Bytes.cons (by omega) (Bytes.cons (by omega) (Bytes.cons (by omega) (Bytes.cons (by omega) (Bytes.cons (by omega) (Bytes.cons h.ttl (Bytes.cons h.proto Bytes.nil)))))))))
theorem Pk.bk_bytes {p : Pk} (h : p.Fine) : Bytes (p.bk ++ p.opts) := by
  have h1 := h.src
  have h2 := h.dst
  unfold Pk.bk
  exact Bytes.append (Bytes.cons (by omega) (Bytes.cons (by omega) (Bytes.cons (by omega) (Bytes.cons (by omega) (Bytes.cons (by omega) (Bytes.cons (by omega) (Bytes.cons (by omega) (Bytes.cons (by omega) Bytes.nil)))))))) h.opts
theorem Pk.T_pos {p : Pk} (h : p.Fine) (he : p.err = 0) : 0 < p.T := by
  have h1 := Pk.fr_bytes h he
  have h2 := Pk.bk_bytes h
  have ho := oOK_len (Pk.err_zero he).1
  have h3 : Bytes (p.fr ++ (p.bk ++ p.opts)) := h1.append h2
  have h4 := tot_nonneg (b := false) h3.tail
  have h5 : p.T = 256 * p.h0 + tot false ((p.fr ++ (p.bk ++ p.opts)).tail) := rfl
  have h6 : 0 ≤ tot false ((p.fr ++ (p.bk ++ p.opts)).tail) := h4
  rw [h5]
  unfold Pk.h0 Pk.hl
  omega
theorem Pk.sum_range {p : Pk} (h : p.Fine) (he : p.err = 0) : 0 ≤ p.sum ∧ p.sum ≤ 65534 := by
  have h1 := Pk.T_pos h he
  have h2 := S_range (t := p.T) (by omega)
  have h3 := S_eq_zero (t := p.T) (by omega)
  unfold Pk.sum
  omega
theorem Pk.head_len (p : Pk) (s : Int) : (p.head s).length = 20 + p.opts.length := by simp [Pk.head, Pk.fr, Pk.bk]; omega
theorem Pk.bytes_len (p : Pk) (s : Int) : (p.bytes s).length = p.tl := by
  unfold Pk.bytes Pk.tl
  rw [List.length_append, Pk.head_len]
theorem Pk.head_bytes {p : Pk} (h : p.Fine) (he : p.err = 0) (s : Int) : Bytes (p.head s) := by
  unfold Pk.head
  exact (Pk.fr_bytes h he).append (Bytes.cons (by omega) (Bytes.cons (by omega) (Pk.bk_bytes h)))
theorem Pk.bytes_bytes {p : Pk} (h : p.Fine) (he : p.err = 0) (s : Int) : Bytes (p.bytes s) := (Pk.head_bytes h he s).append h.body
theorem tot_pair (A : List Int) (hA : A.length % 2 = 0) (s : Int) (h0 : 0 ≤ s) (h1 : s ≤ 65535) (B : List Int) : tot true (A ++ (s / 256 % 256 :: s % 256 :: B)) = tot true (A ++ B) + s := by
  rw [tot_even _ _ hA, tot_even _ _ hA]
  simp only [tot]
  omega
theorem Pk.head_tot {p : Pk} {s : Int} (h0 : 0 ≤ s) (h1 : s ≤ 65535) : tot true (p.head s) = p.T + s := tot_pair p.fr (by simp [Pk.fr]) s h0 h1 _

end Go.Proofs.YtmjhfkjnnpnoaaaX
