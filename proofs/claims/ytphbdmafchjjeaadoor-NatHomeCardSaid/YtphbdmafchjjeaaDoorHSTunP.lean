/- Frames and datagrams in plain words.
   Conditions: none. -/
import Derived.Test.YtphbdmafchjjeaaDoorHSPure
import Derived.Test.YtphbdmafchjjeaaDoorHSBuf
namespace Go.Proofs.YtphbdmafchjjeaaDoorS
open Go Go.RowKit Go.Proofs Go.Proofs.YtphbdmafchjjeaaDoorX
set_option linter.unusedVariables false
set_option linter.unusedSimpArgs false

/-! ### numbers -/
/-- The k bytes of a number, the highest first. -/
def be : Nat → Int → List Int
  | 0, _ => []
  | k + 1, v => v / 256 ^ k % 256 :: be k v
theorem be_len : ∀ (k : Nat) (v : Int), (be k v).length = k
  | 0, _ => rfl
  | k + 1, v => by rw [be, List.length_cons, be_len k v]
theorem be2 (v : Int) : be 2 v = [v / 256 % 256, v % 256] := by
  show [v / 256 ^ 1 % 256, v / 256 ^ 0 % 256] = _
  simp
theorem be4 (v : Int) : be 4 v = [v / 16777216 % 256, v / 65536 % 256, v / 256 % 256, v % 256] := by
  show [v / 256 ^ 3 % 256, v / 256 ^ 2 % 256, v / 256 ^ 1 % 256, v / 256 ^ 0 % 256] = _
  simp
theorem Bytes.be (k : Nat) (v : Int) : Bytes (be k v) := by
  induction k with
  | zero => exact Bytes.nil
  | succ k ih => exact Bytes.cons (by omega) ih
/-- The number of k bytes from a place on. -/
def nbr (b : List Int) (i : Nat) : Nat → Int
  | 0 => 0
  | k + 1 => nbr b i k * 256 + b.getD (i + k) 0
theorem nbr2 (b : List Int) (i : Nat) : nbr b i 2 = wd b i := by
  show ((0 * 256 + b.getD (i + 0) 0) * 256 + b.getD (i + 1) 0) = b.getD i 0 * 256 + b.getD (i + 1) 0
  rw [Nat.add_zero]
  omega
theorem nbr3 (b : List Int) (hb : Bytes b) (i : Nat) : nbr b i 3 = lg b i / 256 := by
  have h3 := hb.getD (i + 3)
  show (((0 * 256 + b.getD (i + 0) 0) * 256 + b.getD (i + 1) 0) * 256 + b.getD (i + 2) 0) = ((b.getD i 0 * 256 + b.getD (i + 1) 0) * 65536 + (b.getD (i + 2) 0 * 256 + b.getD (i + 3) 0)) / 256
  rw [Nat.add_zero]
  omega
theorem nbr_range {b : List Int} (hb : Bytes b) (i : Nat) : ∀ k : Nat, 0 ≤ nbr b i k ∧ nbr b i k < 256 ^ k
  | 0 => ⟨Int.le_refl 0, by show (0 : Int) < 1; decide⟩
  | k + 1 => by
    have ih := nbr_range hb i k
    have h := hb.getD (i + k)
    show 0 ≤ nbr b i k * 256 + b.getD (i + k) 0 ∧ nbr b i k * 256 + b.getD (i + k) 0 < 256 ^ (k + 1)
    rw [Int.pow_succ]
    omega
theorem getD_mid (b : List Int) {i j k : Nat} (h : i + k < j) (hj : j ≤ b.length) : ((b.take j).drop i).getD k 0 = b.getD (i + k) 0 := by
  simp [List.getD_eq_getElem?_getD, List.getElem?_drop, List.getElem?_take, h]
theorem wd_mid (b : List Int) {i : Nat} (h : i + 2 ≤ b.length) : wd ((b.take (i + 2)).drop i) 0 = wd b i := by
  show ((b.take (i + 2)).drop i).getD 0 0 * 256 + ((b.take (i + 2)).drop i).getD 1 0 = b.getD i 0 * 256 + b.getD (i + 1) 0
  rw [getD_mid b (by omega) h, getD_mid b (by omega) h, Nat.add_zero]
theorem lg_mid (b : List Int) {i : Nat} (h : i + 4 ≤ b.length) : lg ((b.take (i + 4)).drop i) 0 = lg b i := by
  show (((b.take (i + 4)).drop i).getD 0 0 * 256 + ((b.take (i + 4)).drop i).getD 1 0) * 65536 + (((b.take (i + 4)).drop i).getD 2 0 * 256 + ((b.take (i + 4)).drop i).getD 3 0) = (b.getD i 0 * 256 + b.getD (i + 1) 0) * 65536 + (b.getD (i + 2) 0 * 256 + b.getD (i + 3) 0)
  rw [getD_mid b (by omega) h, getD_mid b (by omega) h, getD_mid b (by omega) h, getD_mid b (by omega) h, Nat.add_zero]

/-! ### datagrams -/
/-- The pseudo header. -/
def psd (src dst n : Int) : List Int := be 4 src ++ be 4 dst ++ [0, 17] ++ be 2 n
theorem psd_len (src dst n : Int) : (psd src dst n).length = 12 := by simp [psd, be_len]
theorem psd_bytes (src dst n : Int) : Bytes (psd src dst n) := by
  unfold psd
  exact (((Bytes.be 4 src).append (Bytes.be 4 dst)).append (Bytes.cons (by decide) (Bytes.cons (by decide) Bytes.nil))).append (Bytes.be 2 n)
/-- Why a datagram's bytes are refused; 0: they are not. -/
def uBad (src dst : Int) (b : List Int) : Int :=
  if b.length > 65535 then 2 else if b.length < 8 then 72 else if wd b 4 < 8 then 72 else if wd b 4 > b.length then 72
  else if wd b 6 ≠ 0 ∧ S (tot true (psd src dst (wd b 4) ++ b.take (wd b 4).toNat)) ≠ 65535 then 73 else 0
theorem uBad_zero {src dst : Int} {b : List Int} (h : uBad src dst b = 0) : b.length ≤ 65535 ∧ 8 ≤ b.length ∧ 8 ≤ wd b 4 ∧ wd b 4 ≤ b.length ∧ (wd b 6 = 0 ∨ S (tot true (psd src dst (wd b 4) ++ b.take (wd b 4).toNat)) = 65535) := by
  unfold uBad at h
  by_cases h1 : b.length > 65535
  · rw [if_pos h1] at h; omega
  rw [if_neg h1] at h
  by_cases h2 : b.length < 8
  · rw [if_pos h2] at h; omega
  rw [if_neg h2] at h
  by_cases h3 : wd b 4 < 8
  · rw [if_pos h3] at h; omega
  rw [if_neg h3] at h
  by_cases h4 : wd b 4 > b.length
  · rw [if_pos h4] at h; omega
  rw [if_neg h4] at h
  by_cases h5 : wd b 6 ≠ 0 ∧ S (tot true (psd src dst (wd b 4) ++ b.take (wd b 4).toNat)) ≠ 65535
  · rw [if_pos h5] at h; omega
  exact ⟨by omega, by omega, by omega, by omega, by
    by_cases h6 : wd b 6 = 0
    · exact .inl h6
    · exact .inr (Decidable.of_not_not fun h7 => h5 ⟨h6, h7⟩)⟩
/-- What is carried. -/
def uBody (b : List Int) : List Int := (b.take (wd b 4).toNat).drop 8
theorem uBody_len {src dst : Int} {b : List Int} (h : uBad src dst b = 0) : (uBody b).length = (wd b 4).toNat - 8 := by
  have := uBad_zero h
  unfold uBody
  rw [List.length_drop, List.length_take]
  omega
/-- A datagram's bytes, with that in its sum's place. -/
def uRaw (sp dp : Int) (body : List Int) (s : Int) : List Int := sp / 256 % 256 :: sp % 256 :: dp / 256 % 256 :: dp % 256 :: ((8 + body.length : Nat) : Int) / 256 % 256 :: ((8 + body.length : Nat) : Int) % 256 :: s / 256 % 256 :: s % 256 :: body
theorem uRaw_len (sp dp : Int) (body : List Int) (s : Int) : (uRaw sp dp body s).length = 8 + body.length := by
  unfold uRaw
  simp only [List.length_cons]
  omega
theorem uRaw_bytes (sp dp : Int) {body : List Int} (hb : Bytes body) (s : Int) : Bytes (uRaw sp dp body s) := by
  unfold uRaw
  exact Bytes.cons (by omega) (Bytes.cons (by omega) (Bytes.cons (by omega) (Bytes.cons (by omega) (Bytes.cons (by omega) (Bytes.cons (by omega) (Bytes.cons (by omega) (Bytes.cons (by omega) hb)))))))
/-- The sum that is written; 0: none. -/
def uSum (src dst sp dp : Int) (body : List Int) (on : Bool) : Int :=
  if on = true then (if 65535 - S (tot true (psd src dst ((8 + body.length : Nat) : Int) ++ uRaw sp dp body 0)) = 0 then 65535 else 65535 - S (tot true (psd src dst ((8 + body.length : Nat) : Int) ++ uRaw sp dp body 0))) else 0
def uBytes (src dst sp dp : Int) (body : List Int) (on : Bool) : List Int := uRaw sp dp body (uSum src dst sp dp body on)
theorem uCov_tot {src dst sp dp : Int} {body : List Int} (hb : Bytes body) : 0 ≤ tot true (psd src dst ((8 + body.length : Nat) : Int) ++ uRaw sp dp body 0) := tot_nonneg ((psd_bytes _ _ _).append (uRaw_bytes sp dp hb 0))
theorem uSum_range {src dst sp dp : Int} {body : List Int} (hb : Bytes body) (on : Bool) : 0 ≤ uSum src dst sp dp body on ∧ uSum src dst sp dp body on ≤ 65535 := by
  have h := S_range (uCov_tot (src := src) (dst := dst) (sp := sp) (dp := dp) hb)
  unfold uSum
  split
  · split <;> omega
  · omega
def dv (sp dp : Int) (A : Option Addr) (n c : Nat) : List Value := [.int .u16 sp, .int .u16 dp, .slice A n c]

/-! ### frames -/
def typeF (t : Int) : Int := if t < 1536 then 70 else if t = 33024 then 71 else if t = 34984 then 71 else 0
/-- A frame: its two addresses of six bytes, its type, its body. -/
structure Fr where
  d0 : Int
  d1 : Int
  d2 : Int
  d3 : Int
  d4 : Int
  d5 : Int
  s0 : Int
  s1 : Int
  s2 : Int
  s3 : Int
  s4 : Int
  s5 : Int
  typ : Int
  body : List Int
def Fr.macs (f : Fr) : List Int := [f.d0, f.d1, f.d2, f.d3, f.d4, f.d5, f.s0, f.s1, f.s2, f.s3, f.s4, f.s5]
structure Fr.Fine (f : Fr) : Prop where
  macs : Bytes f.macs
  typ : 0 ≤ f.typ ∧ f.typ ≤ 65535
  body : Bytes f.body
  lb : f.body.length ≤ 140737488351232
def fv (f : Fr) (A : Option Addr) (n c : Nat) : List Value := [.int .u8 f.d0, .int .u8 f.d1, .int .u8 f.d2, .int .u8 f.d3, .int .u8 f.d4, .int .u8 f.d5, .int .u8 f.s0, .int .u8 f.s1, .int .u8 f.s2, .int .u8 f.s3, .int .u8 f.s4, .int .u8 f.s5, .int .u16 f.typ, .slice A n c]
def fz : Fr := ⟨0, 0, 0, 0, 0, 0, 0, 0, 0, 0, 0, 0, 0, []⟩
theorem fz_fine : fz.Fine := ⟨by intro x hx; revert x; decide, by decide, Bytes.nil, by decide⟩
/-- Why a frame is not built; a frame's bytes. -/
def Fr.err (f : Fr) : Int := if f.body.length > 65485 then 2 else typeF f.typ
def Fr.bytes (f : Fr) : List Int := f.macs ++ (f.typ / 256 % 256 :: f.typ % 256 :: f.body)
theorem Fr.len (f : Fr) : f.bytes.length = 14 + f.body.length := by
  unfold Fr.bytes Fr.macs
  simp only [List.length_append, List.length_cons, List.length_nil]
  omega
theorem Fr.bytes_bytes {f : Fr} (h : f.Fine) : Bytes f.bytes := by
  unfold Fr.bytes
  exact h.macs.append (Bytes.cons (by omega) (Bytes.cons (by omega) h.body))
/-- Why a frame's bytes are refused; the frame that they are. -/
def fBad (b : List Int) : Int := if b.length > 65499 then 2 else if b.length < 14 then 70 else typeF (wd b 12)
def ofF (b : List Int) : Fr := ⟨b.getD 0 0, b.getD 1 0, b.getD 2 0, b.getD 3 0, b.getD 4 0, b.getD 5 0, b.getD 6 0, b.getD 7 0, b.getD 8 0, b.getD 9 0, b.getD 10 0, b.getD 11 0, wd b 12, b.drop 14⟩
theorem fBad_zero {b : List Int} (h : fBad b = 0) : 14 ≤ b.length ∧ b.length ≤ 65499 ∧ typeF (wd b 12) = 0 := by
  unfold fBad at h
  by_cases h1 : b.length > 65499
  · rw [if_pos h1] at h; omega
  rw [if_neg h1] at h
  by_cases h2 : b.length < 14
  · rw [if_pos h2] at h; omega
  rw [if_neg h2] at h
  exact ⟨by omega, by omega, h⟩
theorem ofF_fine {b : List Int} (hb : Bytes b) (hl : b.length ≤ 65499) : (ofF b).Fine := by
  refine ⟨?_, wd_range hb 12, hb.drop _, ?_⟩
  · show Bytes [_, _, _, _, _, _, _, _, _, _, _, _]
    exact Bytes.cons (hb.getD 0) (Bytes.cons (hb.getD 1) (Bytes.cons (hb.getD 2) (Bytes.cons (hb.getD 3) (Bytes.cons (hb.getD 4) (Bytes.cons (hb.getD 5) (Bytes.cons (hb.getD 6) (Bytes.cons (hb.getD 7) (Bytes.cons (hb.getD 8) (Bytes.cons (hb.getD 9) (Bytes.cons (hb.getD 10) (Bytes.cons (hb.getD 11) Bytes.nil)))))))))))
  · show (b.drop 14).length ≤ _
    rw [List.length_drop]
    omega
theorem uncons {b : List Int} (h : 0 < b.length) : ∃ x r, b = x :: r := by
  cases b with
  | nil => simp at h
  | cons x r => exact ⟨x, r, rfl⟩
theorem macs_take {b : List Int} (h : 12 ≤ b.length) : b.take 6 = [b.getD 0 0, b.getD 1 0, b.getD 2 0, b.getD 3 0, b.getD 4 0, b.getD 5 0] ∧ (b.take 12).drop 6 = [b.getD 6 0, b.getD 7 0, b.getD 8 0, b.getD 9 0, b.getD 10 0, b.getD 11 0] := by
  obtain ⟨x0, b, rfl⟩ := uncons (b := b) (by omega)
  simp only [List.length_cons] at h
  obtain ⟨x1, b, rfl⟩ := uncons (b := b) (by omega)
  simp only [List.length_cons] at h
  obtain ⟨x2, b, rfl⟩ := uncons (b := b) (by omega)
  simp only [List.length_cons] at h
  obtain ⟨x3, b, rfl⟩ := uncons (b := b) (by omega)
  simp only [List.length_cons] at h
  obtain ⟨x4, b, rfl⟩ := uncons (b := b) (by omega)
  simp only [List.length_cons] at h
  obtain ⟨x5, b, rfl⟩ := uncons (b := b) (by omega)
  simp only [List.length_cons] at h
  obtain ⟨x6, b, rfl⟩ := uncons (b := b) (by omega)
  simp only [List.length_cons] at h
  obtain ⟨x7, b, rfl⟩ := uncons (b := b) (by omega)
  simp only [List.length_cons] at h
  obtain ⟨x8, b, rfl⟩ := uncons (b := b) (by omega)
  simp only [List.length_cons] at h
  obtain ⟨x9, b, rfl⟩ := uncons (b := b) (by omega)
  simp only [List.length_cons] at h
  obtain ⟨x10, b, rfl⟩ := uncons (b := b) (by omega)
  simp only [List.length_cons] at h
  obtain ⟨x11, b, rfl⟩ := uncons (b := b) (by omega)
  exact ⟨rfl, rfl⟩
end Go.Proofs.YtphbdmafchjjeaaDoorS
