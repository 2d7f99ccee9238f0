/- Package weftlaw7: TunnelSeals.
   Conditions: the arguments are as a row's arguments are. -/
import Derived.Test.YtleelkkddjldnaaSTLawF
import Derived.Test.YtleelkkddjldnaaSTunS
import Derived.Test.YtleelkkddjldnaaSFY
namespace Go.Proofs.YtleelkkddjldnaaS
open Go Go.RowKit Go.Proofs Go.Proofs.YtleelkkddjldnaaX
set_option maxRecDepth 100000
set_option linter.unusedVariables false
set_option linter.unusedSectionVars false
set_option linter.unusedSimpArgs false

theorem sOut_len {o : Ot} {f : Fr} : (sOut o f).length ≤ 200000 := by
  unfold sOut
  split
  · rename_i h
    have h1 := sErr_zero h
    have h2 := ferr_len h1.2.2
    have h3 := sBody_len o f
    rw [Pk.bytes_len]
    show 20 + 0 + (sBody o f).length ≤ _
    omega
  · exact Nat.zero_le _
theorem TunnelSeals_t {w : World} {o : Ot} (ho : o.Fine) {f : Fr} {A : Option Addr} {n c : Nat} (h : f.Fine ∧ By w A n f.body ∧ n ≤ c ∧ f.body.length ≤ 1048576) : Calls Try.prog 6 #[.agg (ov o).toArray, .agg (fv f A n c).toArray] w (Yes w) := by
  obtain ⟨hf, hA, _, hlb⟩ := h
  refine weftlaw7_TunnelSeals.run ?_
  unfold weftlaw7_TunnelSeals.s
  have hl := hA.len
  have hml := marks_len
  have hso := @sOut_len o f
  refine own_new (l := ov o) (Own.refl w) fun g1 w2 H => ?_
  refine own_new (l := fv f A n c) H fun g3 w4 H => ?_
  refine call_of (begun_t w4) ?_
  rintro e w5 ⟨rfl, k5⟩
  replace H := H.call k5
  refine ⟨_, rfl, ifNot (fun h => by cases h) (fun _ => ?_)⟩
  refine ⟨_, _, _, H.cell 0 13 rfl rfl, ?_⟩
  refine call_of (roomy_c (hA.bel H.bel) (by omega)) ?_
  rintro e w9 ⟨A4, c4, rfl, q⟩
  have r := q.by
  have rc := q.le
  replace H := H.call q.own.bel
  have el : (f.body ++ marks).length = n + 70 := by rw [List.length_append, hml, hl]
  rw [el] at r rc ⊢
  refine ⟨_, _, _, rfl, ?_⟩
  refine ld_fr (H.bk 0 rfl) ?_
  refine own_mk (fv fz none 0 0) H rfl rfl fun g10 w10 H k4 hg => ?_
  have zr := r.newer hg
  replace r := r.bel k4
  refine ⟨_, _, _, H.cell 1 13 rfl rfl, ⟨by omega, by omega⟩, ⟨by omega, by omega⟩, ?_⟩
  refine own_setB 0 H rfl (Nat.lt_of_lt_of_le (by decide : 13 < 14) (Nat.le_refl 14)) fun w11 H u5 => ?_
  replace r := r.but1 u5 zr
  replace H : Own w w11 [(g10, 46, fv f A4 n (n + 70)), (g3, 46, fv f A n c), (g1, 50, ov o)] := H
  refine ld_ou (H.bk 2 rfl) ?_
  refine ld_fr (H.bk 0 rfl) ?_
  have rp := r.take (k := n) (by omega)
  rw [List.take_left' hl] at rp
  refine call_of (Seal_c ho hf rp) ?_
  rintro e w12 ⟨k12, B, m, d, rfl, y, _, _⟩
  replace H := H.call k12
  replace r := r.bel k12
  refine ⟨_, _, _, _, rfl, ?_⟩
  refine ld_ou (H.bk 2 rfl) ?_
  refine ld_fr (H.bk 1 rfl) ?_
  refine call_of (Seal7_c ho hf (hA.bel H.bel)) ?_
  rintro e w13 ⟨k13, B', m', d', rfl, y', _, _⟩
  replace H := H.call k13
  replace r := r.bel k13
  replace y := y.bel k13
  refine ⟨_, _, _, _, rfl, ?_⟩
  refine ifE (fun _ => ?_) (fun h => absurd rfl h)
  refine call_of (same_t y y' (by rw [← y.len]; omega)) ?_
  rintro e w14 ⟨rfl, k14⟩
  replace H := H.call k14
  replace r := r.bel k14
  refine ⟨_, rfl, ifB (fun _ => ?_) (fun h => by cases h)⟩
  refine ⟨A, n, c, H.cell 1 13 rfl rfl, ?_⟩
  refine call_of (kept_t r (hA.bel H.bel) (by omega)) ?_
  rintro e w15 ⟨rfl, k15⟩
  exact ⟨_, rfl, rfl, H.bel.trans k15⟩
end Go.Proofs.YtleelkkddjldnaaS
