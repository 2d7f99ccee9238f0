/- Package weftlaw7: TunnelFlows.
   Conditions: the arguments are as a row's arguments are. -/
import Derived.Test.YtleelkkddjldnaaSTLawF
import Derived.Test.YtleelkkddjldnaaSTunK
import Derived.Test.YtleelkkddjldnaaSFY
namespace Go.Proofs.YtleelkkddjldnaaS
open Go Go.RowKit Go.Proofs Go.Proofs.YtleelkkddjldnaaX
set_option maxRecDepth 100000
set_option linter.unusedVariables false
set_option linter.unusedSectionVars false
set_option linter.unusedSimpArgs false

/-- The slice A[:n] holds frames, with room behind their bodies. -/
def FrsC (w : World) (A : Option Addr) (n : Nat) : Prop := 0 < n → ∃ a, A = some a ∧ ∀ i, i < n → ∃ (f : Fr) (B : Option Addr) (m d : Nat), At w (a.add (i * 14)) (fv f B m d) ∧ f.Fine ∧ By w B m f.body ∧ m ≤ 1000000000000 ∧ m ≤ d
theorem At.one {w : World} {a : Addr} {l : List Value} (h : At w a l) (i : Nat) {v : Value} (hv : l[i]? = some v) : w.cell? (a.add i) = some v := h i v hv
theorem TunnelFlows_l {w0 : World} {A : Option Addr} {n c : Nat} (hs : FrsC w0 A n) (hn : n ≤ 1000000000000000) : ∀ (q i : Nat) (w : World), n - i < q → i ≤ n → Bel w0 w → weftlaw7_TunnelFlows.L1 q A n c (i : Int) w (Yes w0) := by
  intro q
  induction q with
  | zero => intro i w h; omega
  | succ q ih =>
    intro i w hq hi2 hb
    unfold weftlaw7_TunnelFlows.L1; intros
    rw [weftlaw7_TunnelFlows.l1_eq]
    refine ifD (fun h1 => ?_) (fun h1 => ⟨rfl, hb⟩)
    obtain ⟨a, ea, hc⟩ := hs (by omega)
    obtain ⟨f, B, m, d, hat, hf, hA, hm, hmd⟩ := hc i (by omega)
    have hl := hA.len
    have hml := marks_len
    rw [Int.toNat_natCast]
    refine ⟨a, ea, ⟨by omega, by omega⟩, _, _, _, (hat.bel hb).one 13 rfl, ?_⟩
    have H : Own w0 w [] := (Own.refl w0).call hb
    refine call_of (roomy_c (hA.bel H.bel) (by omega)) ?_
    rintro e w3 ⟨A4, c4, rfl, q⟩
    have r := q.by
    have rc := q.le
    replace H := H.call q.own.bel
    have el : (f.body ++ marks).length = m + 70 := by rw [List.length_append, hml, hl]
    rw [el] at r rc ⊢
    refine ⟨_, _, _, rfl, a, ea, ⟨by omega, by omega⟩, ?_⟩
    refine ⟨_, _, _, _, _, _, _, _, _, _, _, _, _, _, _, _, ⟨rfl, hat.bel H.bel⟩, ?_⟩
    refine own_mk (fv fz none 0 0) H rfl rfl fun g10 w4 H k4 hg => ?_
    have zr := r.newer hg
    replace r := r.bel k4
    refine ⟨a, ea, ⟨by omega, by omega⟩, _, _, _, (hat.bel H.bel).one 13 rfl, ⟨by omega, by omega⟩, ⟨by omega, by omega⟩, ?_⟩
    refine own_setB 0 H rfl (Nat.lt_of_lt_of_le (by decide : 13 < 14) (Nat.le_refl 14)) fun w5 H u5 => ?_
    replace r := r.but1 u5 zr
    replace H : Own w0 w5 [(g10, 46, fv f A4 m (m + 70))] := H
    refine ld_fr (H.bk 0 rfl) ?_
    have rp := r.take (k := m) (by omega)
    rw [List.take_left' hl] at rp
    refine call_of (Flow_c hf rp (by omega) (by omega)) ?_
    rintro e w6 ⟨rfl, k6⟩
    replace H := H.call k6
    replace r := r.bel k6
    refine ⟨_, rfl, a, ea, ⟨by omega, by omega⟩, ?_⟩
    refine ⟨_, _, _, _, _, _, _, _, _, _, _, _, _, _, _, _, ⟨rfl, hat.bel H.bel⟩, ?_⟩
    refine call_of (Flow7_c hf (hA.bel H.bel) hmd hm) ?_
    rintro e w7 ⟨rfl, k7⟩
    replace H := H.call k7
    replace r := r.bel k7
    refine ⟨_, rfl, ifN (fun h => absurd rfl h) (fun _ => ?_)⟩
    refine ⟨a, ea, ⟨by omega, by omega⟩, _, _, _, (hat.bel H.bel).one 13 rfl, ?_⟩
    refine call_of (kept_t r (hA.bel H.bel) (by omega)) ?_
    rintro e w8' ⟨rfl, k8⟩
    refine ⟨_, rfl, ifNot (fun h => by cases h) (fun _ => ?_)⟩
    refine let_as ((i + 1 : Nat) : Int) (by rw [w64 (by omega) (by omega)]; omega) ?_
    have kk := ih (i + 1) w8' (by omega) (by omega) (H.bel.trans k8)
    with_reducible apply kk
theorem TunnelFlows_t {w : World} {A : Option Addr} {n c : Nat} (h : FrsC w A n ∧ n ≤ 1000000000000) : Calls Try.prog 7 #[.slice A n c] w (Yes w) := by
  obtain ⟨hs, hn⟩ := h
  refine weftlaw7_TunnelFlows.run ?_
  unfold weftlaw7_TunnelFlows.s
  refine call_of (begun_t w) ?_
  rintro e w1 ⟨rfl, k1⟩
  refine ⟨_, rfl, ifNot (fun h => by cases h) (fun _ => ?_)⟩
  refine ⟨n + 1, ?_⟩
  have k : weftlaw7_TunnelFlows.L1 (n + 1) A n c 0 w1 (Yes w) := TunnelFlows_l hs (by omega) (n + 1) 0 w1 (by omega) (by omega) k1
  with_reducible apply k
end Go.Proofs.YtleelkkddjldnaaS
