/- What package icmp's own answers are, asked again.
   Conditions: none; plain words about packets. -/
import Derived.Test.YtchdcdmdbjkihaaDoorSLawA
namespace Go.Proofs.YtchdcdmdbjkihaaDoorS
open Go Go.RowKit Go.Proofs Go.Proofs.YtchdcdmdbjkihaaDoorX
set_option maxRecDepth 100000
set_option linter.unusedVariables false
set_option linter.unusedSimpArgs false

theorem pz_any {w w' : World} {A : Option Addr} {n c : Nat} {B : Option Addr} {m d : Nat} (h : PkAt w pz A n c B m d) : PkAt w' pz A n c B m d := by
  have h1 : 0 = n := h.opts.len
  have h2 : 0 = m := h.body.len
  subst h1
  subst h2
  exact ⟨By.nil _ _, By.nil _ _, h.co, h.cb⟩
theorem icBad_own {q : Ic} (h : q.Fine) (h5 : q.body.length ≤ 65507) : icBad (q.bytes q.sum) = 0 := by
  have hl := Ic.len q q.sum
  have hs := Ic.sum_range h
  unfold icBad
  rw [if_neg (by omega), if_neg (by omega), Ic.tot_bytes q hs.1 hs.2, Ic.sum_full h, if_neg (by decide)]
theorem lg_own {q : Ic} (h : q.Fine) (s : Int) : lg (q.bytes s) 4 = q.rest := by
  have := h.rest
  show ((q.rest / 16777216 % 256) * 256 + q.rest / 65536 % 256) * 65536 + ((q.rest / 256 % 256) * 256 + q.rest % 256) = q.rest
  omega
theorem ordB_zero {n : Int} (h0 : 0 ≤ n) (h1 : n ≤ 65535) : ordB 0 n false = true := by
  unfold ordB
  rw [decide_eq_true (by omega)]
  rfl
section
variable {q : Ic} (h : q.Fine) (h5 : q.body.length ≤ 65507) {tos src dst : Int} (ht : 0 ≤ tos ∧ tos ≤ 255) (hs : 0 ≤ src ∧ src ≤ 4294967295) (hd : 0 ≤ dst ∧ dst ≤ 4294967295)
include h h5 ht hs hd in
theorem madeP_fine : (madeP tos src dst q).Fine := by
  have hl := Ic.len q q.sum
  refine ⟨ht, by show 0 ≤ (0 : Int) ∧ (0 : Int) ≤ 65535; decide, by show -9223372036854775808 ≤ (0 : Int) ∧ (0 : Int) ≤ 9223372036854775807; decide, by show 0 ≤ (64 : Int) ∧ (64 : Int) ≤ 255; decide, by show 0 ≤ (1 : Int) ∧ (1 : Int) ≤ 255; decide, hs, hd, Bytes.nil, Ic.bytes_bytes h _, ?_, ?_⟩
  · show (0 : Nat) ≤ _; omega
  · show (q.bytes q.sum).length ≤ _; omega
include h5 in
theorem madeP_err : (madeP tos src dst q).err = 0 := by
  have hl := Ic.len q q.sum
  refine Pk.err_of ?_ ?_ ?_
  · show oOK [] = true
    simp [oOK, area]
  · show ordB 0 ((q.bytes q.sum).length : Int) false = true
    exact ordB_zero (by omega) (by omega)
  · show 20 + 0 + (q.bytes q.sum).length ≤ 65535
    omega
include h h5 in
theorem madeP_msg : msgE (madeP tos src dst q) = 0 := by
  unfold msgE
  rw [if_neg (not_not_intro (madeP_err h5)), if_neg (show ¬ (madeP tos src dst q).proto ≠ 1 from not_not_intro rfl), if_neg (show ¬ (madeP tos src dst q).off > 0 from by show ¬ (0 : Int) > 0; decide), if_neg (show ¬ (madeP tos src dst q).mf = true from by show ¬ false = true; decide)]
  exact icBad_own h h5
end
theorem mayB_fault {t c x : Int} (ht : 0 ≤ t) (hc : 0 ≤ c) (h : mayB t c x = true) : faultT t = true := by
  have hr := mayB_range h
  unfold mayB at h
  rw [if_neg (by omega)] at h
  by_cases h2 : c ≥ codesL.getD t.toNat 0
  · rw [if_pos h2] at h; cases h
  have : ∀ i : Nat, i < 13 → 0 < codesL.getD i 0 → faultT (i : Int) = true := by
    intro i hi
    rcases (by omega : i = 0 ∨ i = 1 ∨ i = 2 ∨ i = 3 ∨ i = 4 ∨ i = 5 ∨ i = 6 ∨ i = 7 ∨ i = 8 ∨ i = 9 ∨ i = 10 ∨ i = 11 ∨ i = 12) with rfl | rfl | rfl | rfl | rfl | rfl | rfl | rfl | rfl | rfl | rfl | rfl | rfl <;> decide
  have := this t.toNat (by omega) (by omega)
  rwa [Int.toNat_of_nonneg ht] at this
theorem faultE_zero {p : Pk} {t c x src : Int} (h : faultE p t c x src = 0) : mayB t c x = true ∧ plainA src = true ∧ p.err = 0 ∧ quietP p = false := by
  unfold faultE at h
  by_cases h1 : mayB t c x = false
  · rw [if_pos h1] at h; cases h
  rw [if_neg h1] at h
  by_cases h2 : plainA src = false
  · rw [if_pos h2] at h; cases h
  rw [if_neg h2] at h
  by_cases h3 : p.err ≠ 0
  · rw [if_pos h3] at h; exact absurd h h3
  rw [if_neg h3] at h
  by_cases h4 : quietP p = true
  · rw [if_pos h4] at h; cases h
  exact ⟨by simpa using h1, by simpa using h2, Decidable.of_not_not h3, by simpa using h4⟩
theorem small6_err : small6.err = 0 := by
  refine Pk.err_of ?_ ?_ ?_
  · show oOK [131, 3, 4, 0] = true
    simp [oOK, area]
  · exact ordB_zero (by decide) (by decide)
  · decide
/-- What is known of a fault that was made. -/
structure Told (q : Pk) : Prop where
  fine : q.Fine
  err : q.err = 0
  quiet : quietP q = true
  echo : echoE q = 62
theorem fault_told {p : Pk} (h : p.Fine) {t c x src : Int} (ht : 0 ≤ t ∧ t ≤ 255) (hc : 0 ≤ c ∧ c ≤ 255) (hs : 0 ≤ src ∧ src ≤ 4294967295) (he : faultE p t c x src = 0) : Told (faultP p t c x src) := by
  obtain ⟨h1, h2, h3, h4⟩ := faultE_zero he
  have hf := faultI_fine h h3 ht.1 hc.1 h1
  have hl := faultI_len h3 t c x
  have hT := mayB_fault ht.1 hc.1 h1
  refine ⟨madeP_fine hf (by omega) (by decide) hs h.src, madeP_err (by omega), ?_, ?_⟩
  · unfold quietP
    have e1 : (faultP p t c x src).proto = 1 := rfl
    have e2 : (faultP p t c x src).body.getD 0 0 = t := rfl
    rw [e1, e2, hT]
    simp
  · unfold echoE
    have e2 : (faultP p t c x src).body.getD 0 0 = t := rfl
    have hm : msgE (faultP p t c x src) = 0 := madeP_msg hf (by omega)
    have ht8 : t ≠ 8 := fun h => by rw [h] at hT; cases hT
    rw [if_neg (not_not_intro hm), e2, if_pos (Or.inl ht8)]
end Go.Proofs.YtchdcdmdbjkihaaDoorS
