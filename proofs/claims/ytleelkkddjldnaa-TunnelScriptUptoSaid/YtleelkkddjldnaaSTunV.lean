/- Sealed bytes with other flags and reserved bytes: the bytes in plain words.
   Conditions: an outer record and a frame that may be sealed. -/
import Derived.Test.YtleelkkddjldnaaSTunR
namespace Go.Proofs.YtleelkkddjldnaaS
open Go Go.RowKit Go.Proofs Go.Proofs.YtleelkkddjldnaaX
set_option maxRecDepth 100000
set_option linter.unusedVariables false
set_option linter.unusedSectionVars false
set_option linter.unusedSimpArgs false

def gH (o : Ot) (N M s : Int) : List Int := [69, 0, N / 256 % 256, N % 256, 0, 0, 64, 0, o.ttl, 17, s / 256 % 256, s % 256, o.src / 16777216, o.src / 65536 % 256, o.src / 256 % 256, o.src % 256, o.dst / 16777216, o.dst / 65536 % 256, o.dst / 256 % 256, o.dst % 256,
  o.sp / 256 % 256, o.sp % 256, o.dp / 256 % 256, o.dp % 256, M / 256 % 256, M % 256, 0, 0]
theorem gPk_tl (o : Ot) (f : Fr) (fl r0 r1 r2 r3 : Int) : (gPk o f fl r0 r1 r2 r3).tl = 50 + f.body.length := by
  show 20 + 0 + (uRaw o.sp o.dp (gV o fl r0 r1 r2 r3 ++ f.bytes) 0).length = _
  rw [uRaw_len, gV_len]
  omega
theorem gPk_sum (o : Ot) (f : Fr) (fl r0 r1 r2 r3 : Int) : (gPk o f fl r0 r1 r2 r3).sum = (gPk o f 8 0 0 0 0).sum := by
  have e : (gPk o f fl r0 r1 r2 r3).fr = (gPk o f 8 0 0 0 0).fr := by
    unfold Pk.fr
    rw [gPk_tl, gPk_tl]
    rfl
  unfold Pk.sum Pk.T
  rw [e]
  rfl
theorem gPk_bytes (o : Ot) (f : Fr) (fl r0 r1 r2 r3 s : Int) : (gPk o f fl r0 r1 r2 r3).bytes s = gH o ((50 + f.body.length : Nat) : Int) ((30 + f.body.length : Nat) : Int) s ++ (gV o fl r0 r1 r2 r3 ++ f.bytes) := by
  have e : (gPk o f fl r0 r1 r2 r3).fr = [69, 0, ((50 + f.body.length : Nat) : Int) / 256 % 256, ((50 + f.body.length : Nat) : Int) % 256, 0, 0, 64, 0, o.ttl, 17] := by
    have e1 : (gPk o f fl r0 r1 r2 r3).h0 = 69 := by
      unfold Pk.h0 Pk.hl
      show 64 + ((20 + 0 : Nat) : Int) / 4 = 69
      decide
    have e2 : (gPk o f fl r0 r1 r2 r3).fl = 16384 := by
      unfold Pk.fl
      show (0 : Int) / 8 + (if true = true then 16384 else 0) + (if false = true then 8192 else 0) = 16384
      decide
    unfold Pk.fr
    rw [gPk_tl, e1, e2]
    show [69, (0 : Int), ((50 + f.body.length : Nat) : Int) / 256 % 256, ((50 + f.body.length : Nat) : Int) % 256, (0 : Int) / 256 % 256, (0 : Int) % 256, (16384 : Int) / 256 % 256, (16384 : Int) % 256, o.ttl, 17] = _
    rw [show (0 : Int) / 256 % 256 = 0 by decide, show (0 : Int) % 256 = 0 by decide, show (16384 : Int) / 256 % 256 = 64 by decide, show (16384 : Int) % 256 = 0 by decide]
  have em : 8 + (gV o fl r0 r1 r2 r3 ++ f.bytes).length = 30 + f.body.length := by rw [gV_len]; omega
  unfold Pk.bytes Pk.head
  rw [e]
  show ([69, 0, ((50 + f.body.length : Nat) : Int) / 256 % 256, ((50 + f.body.length : Nat) : Int) % 256, 0, 0, 64, 0, o.ttl, 17] ++ (s / 256 % 256 :: s % 256 :: ([o.src / 16777216, o.src / 65536 % 256, o.src / 256 % 256, o.src % 256, o.dst / 16777216, o.dst / 65536 % 256, o.dst / 256 % 256, o.dst % 256] ++ []))) ++ uRaw o.sp o.dp (gV o fl r0 r1 r2 r3 ++ f.bytes) 0 = _
  unfold uRaw
  rw [em]
  rfl
theorem gPk_own' (o : Ot) (f : Fr) (h : sErr o f = 0) : sOut o f = gH o ((50 + f.body.length : Nat) : Int) ((30 + f.body.length : Nat) : Int) (gPk o f 8 0 0 0 0).sum ++ (gV o 8 0 0 0 0 ++ f.bytes) := by
  unfold sOut
  rw [if_pos h, gPk_own, gPk_bytes]
theorem gPk_set (o : Ot) (N M s : Int) (fb : List Int) (fl r0 r1 r2 r3 x : Int) :
    (gH o N M s ++ (gV o fl r0 r1 r2 r3 ++ fb)).set 28 x = gH o N M s ++ (gV o x r0 r1 r2 r3 ++ fb) ∧ (gH o N M s ++ (gV o fl r0 r1 r2 r3 ++ fb)).set 29 x = gH o N M s ++ (gV o fl x r1 r2 r3 ++ fb) ∧
    (gH o N M s ++ (gV o fl r0 r1 r2 r3 ++ fb)).set 30 x = gH o N M s ++ (gV o fl r0 x r2 r3 ++ fb) ∧ (gH o N M s ++ (gV o fl r0 r1 r2 r3 ++ fb)).set 31 x = gH o N M s ++ (gV o fl r0 r1 x r3 ++ fb) ∧
    (gH o N M s ++ (gV o fl r0 r1 r2 r3 ++ fb)).set 35 x = gH o N M s ++ (gV o fl r0 r1 r2 x ++ fb) := ⟨rfl, rfl, rfl, rfl, rfl⟩
theorem or8 {x : Int} (h : 0 ≤ x ∧ x ≤ 255) : (0 ≤ Go.bits .or .u8 x 8 ∧ Go.bits .or .u8 x 8 ≤ 255) ∧ Go.bits .or .u8 x 8 / 8 % 2 ≠ 0 := by
  have k : ∀ n : _root_.Fin 256, (0 ≤ Go.bits .or .u8 ((n.val : Nat) : Int) 8 ∧ Go.bits .or .u8 ((n.val : Nat) : Int) 8 ≤ 255) ∧ Go.bits .or .u8 ((n.val : Nat) : Int) 8 / 8 % 2 ≠ 0 := by decide +kernel
  have := k ⟨x.toNat, by omega⟩
  have e : ((x.toNat : Nat) : Int) = x := Int.toNat_of_nonneg h.1
  simp only [e] at this
  exact this
theorem not8 {x : Int} (h : 0 ≤ x ∧ x ≤ 255) : (0 ≤ Go.bits .andNot .u8 x 8 ∧ Go.bits .andNot .u8 x 8 ≤ 255) ∧ Go.bits .andNot .u8 x 8 / 8 % 2 = 0 := by
  have k : ∀ n : _root_.Fin 256, (0 ≤ Go.bits .andNot .u8 ((n.val : Nat) : Int) 8 ∧ Go.bits .andNot .u8 ((n.val : Nat) : Int) 8 ≤ 255) ∧ Go.bits .andNot .u8 ((n.val : Nat) : Int) 8 / 8 % 2 = 0 := by decide +kernel
  have := k ⟨x.toNat, by omega⟩
  have e : ((x.toNat : Nat) : Int) = x := Int.toNat_of_nonneg h.1
  simp only [e] at this
  exact this
/-- What is opened of such bytes. -/
theorem gOpen {o : Ot} {f : Fr} (ho : o.Fine) (hf : f.Fine) (h : sErr o f = 0) {fl r0 r1 r2 r3 : Int} (hfl : 0 ≤ fl ∧ fl ≤ 255) (h0 : 0 ≤ r0 ∧ r0 ≤ 255) (h1 : 0 ≤ r1 ∧ r1 ≤ 255) (h2 : 0 ≤ r2 ∧ r2 ≤ 255) (h3 : 0 ≤ r3 ∧ r3 ≤ 255) {b : List Int}
    (hb : b = gH o ((50 + f.body.length : Nat) : Int) ((30 + f.body.length : Nat) : Int) (gPk o f 8 0 0 0 0).sum ++ (gV o fl r0 r1 r2 r3 ++ f.bytes)) :
    oBad b = (if fl / 8 % 2 = 0 then 77 else 0) ∧ rO (pkOf b) 0 = o ∧ rF (pkOf b) 0 = f ∧ Bytes b ∧ b.length = 50 + f.body.length := by
  have hz := sErr_zero h
  have e : b = (gPk o f fl r0 r1 r2 r3).bytes (gPk o f fl r0 r1 r2 r3).sum ++ [] := by rw [List.append_nil, gPk_sum, gPk_bytes, hb]
  obtain ⟨q1, q2, q3⟩ := gPk_open ho hf ⟨hz.1, hz.2.1⟩ hz.2.2 hfl h0 h1 h2 h3 ho.sp []
  obtain ⟨q4, _⟩ := gPk_reads ho hf hz.2.2 hfl h0 h1 h2 h3 []
  have hF := gPk_fine ho hf hz.2.2 hfl h0 h1 h2 h3
  have hE := gPk_err ho hf hz.2.2 hfl h0 h1 h2 h3
  rw [e, q1, q4, q2, q3]
  refine ⟨rfl, rfl, rfl, ?_, ?_⟩
  · rw [List.append_nil]
    exact (Pk.head_bytes hF hE _).append hF.body
  · rw [List.append_nil, Pk.bytes_len, gPk_tl]
end Go.Proofs.YtleelkkddjldnaaS
