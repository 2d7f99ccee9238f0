/- The small packet of the laws; a packet's bytes with another sum in them; what a right sum's field may be.
   Conditions: none; every statement is proved here. -/
import Derived.Test.YtbacmhegalncjaaQAXBack
import Derived.Test.YtbacmhegalncjaaQAXBx7
namespace Go.Proofs.YtbacmhegalncjaaX
open Go.RowKit Go.Proofs.Ytbacmhegalncjaa.XB Go.Proofs.YtbacmhegalncjaaW.PrintWords Go.Proofs.YtbacmhegalncjaaW.PrintLast Go.Proofs.YtbacmhegalncjaaW.PrintMore
set_option linter.unusedVariables false
set_option linter.unusedSimpArgs false

def smallP : Pk := ⟨3, 7216, false, false, 0, 9, 17, 167838211, 167904004, [131, 3, 4, 0], [1, 2, 3]⟩
theorem small_f : weftlaw3_small.f = some (smallP.tos, smallP.id, smallP.df, smallP.mf, smallP.off, smallP.ttl, smallP.proto, smallP.src, smallP.dst, smallP.opts, smallP.body) := rfl
theorem small_fine : smallP.Fine := by
  refine ⟨?_, ?_, ?_, ?_, ?_, ?_, ?_, ?_, ?_, ?_, ?_⟩ <;> simp [smallP, Bytes]
theorem small_err : smallP.err = 0 := by
  refine Pk.err_of ?_ ?_ ?_
  · simp [smallP, oOK, area]
  · simp [smallP, ordB]
  · simp [smallP]
theorem pair_getD (A : List Int) (hA : A.length = 10) (s0 s1 t0 t1 : Int) (R : List Int) (i : Nat) (h0 : i ≠ 10) (h1 : i ≠ 11) : (A ++ (s0 :: s1 :: R)).getD i 0 = (A ++ (t0 :: t1 :: R)).getD i 0 := by
  simp only [List.getD_eq_getElem?_getD]
  by_cases h : i < 10
  · rw [List.getElem?_append_left (by omega), List.getElem?_append_left (by omega)]
  · rw [List.getElem?_append_right (by omega), List.getElem?_append_right (by omega), hA]
    obtain ⟨j, hj⟩ : ∃ j, i - 10 = j + 2 := ⟨i - 12, by omega⟩
    rw [hj]
    rfl
theorem bytes_getD (p : Pk) (s t : Int) (i : Nat) (h0 : i ≠ 10) (h1 : i ≠ 11) : (p.bytes s).getD i 0 = (p.bytes t).getD i 0 := by
  unfold Pk.bytes Pk.head
  rw [List.append_assoc, List.append_assoc]
  exact pair_getD p.fr rfl _ _ _ _ _ i h0 h1
theorem wd_sum (p : Pk) {s : Int} (h0 : 0 ≤ s) (h1 : s ≤ 65535) (tail : List Int) : wd (p.bytes s ++ tail) 10 = s := by
  show s / 256 % 256 * 256 + s % 256 = s
  omega
theorem tl_le {p : Pk} (he : p.err = 0) : 20 ≤ p.tl ∧ p.tl ≤ 65535 := by
  have := (Pk.err_zero he).2.2
  unfold Pk.tl
  omega
theorem right_sum {p : Pk} (h : p.Fine) (he : p.err = 0) {s : Int} (h0 : 0 ≤ s) (h1 : s ≤ 65535) (hs : S (p.T + s) = 65535) : s = p.sum ∨ (s = 65535 ∧ p.sum = 0) := by
  have hT := Pk.T_pos h he
  have m1 := S_mod (t := p.T + s) (by omega)
  have m2 := S_mod (t := p.T) (by omega)
  have m3 := S_range (t := p.T) (by omega)
  have m4 := S_eq_zero (t := p.T) (by omega)
  rw [hs] at m1
  unfold Pk.sum
  generalize S p.T = q at *
  omega
theorem Reads.ofB {p : Pk} {b : List Int} (h : Reads p b) : ofB b = p := by
  have hd := h.head ()
  have h1 := h.opts
  have h2 := h.body
  cases p
  simp only [hdF, Prod.mk.injEq] at hd
  obtain ⟨e1, e2, e3, e4, e5, e6, e7, e8, e9, _⟩ := hd
  unfold Go.Proofs.YtbacmhegalncjaaX.ofB
  rw [e1, e2, e3, e4, e5, e6, e7, e8, e9, h1, h2]
theorem reads_own {p : Pk} (h : p.Fine) (he : p.err = 0) (tail : List Int) : Reads p (p.bytes p.sum ++ tail) := by
  have := Pk.sum_range h he
  exact reads_bytes h he this.1 (by omega) (sum_full h he) tail
theorem reads_own' {p : Pk} (h : p.Fine) (he : p.err = 0) : Reads p (p.bytes p.sum) := by
  have := reads_own h he []
  rwa [List.append_nil] at this
/-- Build, where nothing is refused. -/
theorem build_ok {p : Pk} (h : p.Fine) (he : p.err = 0) : Ev (fun k => ip4_Build.f k p.tos p.id p.df p.mf p.off p.ttl p.proto p.src p.dst p.opts p.body) (p.bytes p.sum, 0) := by
  have := build_f p h
  rwa [if_pos he] at this
end Go.Proofs.YtbacmhegalncjaaX
