/- Package weftlaw7: TunnelOpens.
   Conditions: the arguments are as a row's arguments are. -/
import Derived.Test.YtleelkkddjldnaaSTLawF
import Derived.Test.YtleelkkddjldnaaSTunO
import Derived.Test.YtleelkkddjldnaaSFY
namespace Go.Proofs.YtleelkkddjldnaaS
open Go Go.RowKit Go.Proofs Go.Proofs.YtleelkkddjldnaaX
set_option maxRecDepth 100000
set_option linter.unusedVariables false
set_option linter.unusedSectionVars false
set_option linter.unusedSimpArgs false

/-- The slice A[:n] holds lists of bytes, with room behind each. -/
def RawsC (w : World) (A : Option Addr) (n : Nat) : Prop := 0 < n → ∃ a, A = some a ∧ ∀ i, i < n → ∃ (b : List Int) (B : Option Addr) (m d : Nat), At w (a.add (i * 1)) [.slice B m d] ∧ By w B m b ∧ Bytes b ∧ m ≤ 1000000000000 ∧ m ≤ d
theorem eqV_ou (a b c d e f : Int) : eqV [.int .u32 a, .int .u32 b, .int .u16 c, .int .u16 d, .int .u8 e, .int .i64 f] [.int .u32 a, .int .u32 b, .int .u16 c, .int .u16 d, .int .u8 e, .int .i64 f] = true := by simp [eqV]
theorem ifNO {a b c d e f : Int} {X Y : Prop} (h : Y) : if (!(eqV [.int .u32 a, .int .u32 b, .int .u16 c, .int .u16 d, .int .u8 e, .int .i64 f] [.int .u32 a, .int .u32 b, .int .u16 c, .int .u16 d, .int .u8 e, .int .i64 f])) = true then X else Y := by
  rw [eqV_ou, if_neg (by decide)]
  exact h
theorem TunnelOpens_l {w0 : World} {A : Option Addr} {n c : Nat} (hs : RawsC w0 A n) (hn : n ≤ 1000000000000000) : ∀ (q i : Nat) (w : World), n - i < q → i ≤ n → Bel w0 w → weftlaw7_TunnelOpens.L1 q A n c (i : Int) w (Yes w0) := by
  intro q
  induction q with
  | zero => intro i w h; omega
  | succ q ih =>
    intro i w hq hi2 hbel
    unfold weftlaw7_TunnelOpens.L1; intros
    rw [weftlaw7_TunnelOpens.l1_eq]
    refine ifD (fun h1 => ?_) (fun h1 => ⟨rfl, hbel⟩)
    obtain ⟨a, ea, hc⟩ := hs (by omega)
    obtain ⟨b, B, m, d, hat, hB, hbb, hm, hmd⟩ := hc i (by omega)
    rw [Nat.mul_one] at hat
    have hl := hB.len
    have hml := marks_len
    rw [Int.toNat_natCast]
    refine ⟨a, ea, ⟨by omega, by omega⟩, _, _, _, hat.bel hbel 0 _ rfl, ?_⟩
    have H : Own w0 w [] := (Own.refl w0).call hbel
    refine call_of (roomy_c (hB.bel H.bel) (by omega)) ?_
    rintro e w3 ⟨A4, c4, rfl, q⟩
    have r := q.by
    have rc := q.le
    replace H := H.call q.own.bel
    have el : (b ++ marks).length = m + 70 := by rw [List.length_append, hml, hl]
    rw [el] at r rc ⊢
    refine ⟨_, _, _, rfl, ⟨by omega, by omega⟩, ⟨by omega, by omega⟩, ?_⟩
    have rp := r.take (k := m) (by omega)
    rw [List.take_left' hl] at rp
    have hfl : (rF (pkOf b) (oBad b)).body.length ≤ 100000 ∨ True := Or.inr trivial
    refine call_of (Open_c rp hbb (by omega) (by omega)) ?_
    rintro e w6 ⟨k6, D, j, rfl, y, _⟩
    replace H := H.call k6
    replace r := r.bel k6
    refine ⟨_, _, _, _, _, _, _, _, _, _, _, _, _, _, _, _, _, _, _, _, _, _, _, rfl, ?_⟩
    refine own_newC (l := ov oz) H fun g1 w7 H k7 hg7 => ?_
    refine own_newC (l := fv fz none 0 0) H fun g2 w8' H k8 hg8 => ?_
    have zy := (y.bel k7).newer hg8
    have zr := (r.bel k7).newer hg8
    have zy1 := y.newer hg7
    have zr1 := r.newer hg7
    replace y := (y.bel k7).bel k8
    replace r := (r.bel k7).bel k8
    refine own_putB 1 H rfl rfl (by decide) fun w9 H u9 => ?_
    replace y := y.but1 u9 zy1
    replace r := r.but1 u9 zr1
    refine own_putB 0 H rfl rfl (by decide) fun w10 H u10 => ?_
    replace y := y.but1 u10 zy
    replace r := r.but1 u10 zr
    replace H : Own w0 w10 [(g2, 46, fv (rF (pkOf b) (oBad b)) D (rF (pkOf b) (oBad b)).body.length j), (g1, 50, ov (rO (pkOf b) (oBad b)))] := H
    refine call_of (Open7_c (hB.bel H.bel) hbb hmd hm) ?_
    rintro e w11 ⟨k11, D', j', rfl, y', _⟩
    replace H := H.call k11
    replace r := r.bel k11
    replace y := y.bel k11
    refine ⟨_, _, _, _, _, _, _, _, _, _, _, _, _, _, _, _, _, _, _, _, _, _, _, rfl, ?_⟩
    refine own_newC (l := ov oz) H fun g3 w12 H k12 hg12 => ?_
    refine own_newC (l := fv fz none 0 0) H fun g4 w13 H k13 hg13 => ?_
    have zy := (y.bel k12).newer hg13
    have zr := (r.bel k12).newer hg13
    have zy1 := y.newer hg12
    have zr1 := r.newer hg12
    have zz := (y'.bel k12).newer hg13
    have zz1 := y'.newer hg12
    replace y := (y.bel k12).bel k13
    replace y' := (y'.bel k12).bel k13
    replace r := (r.bel k12).bel k13
    refine own_putB 1 H rfl rfl (by decide) fun w14 H u14 => ?_
    replace y := y.but1 u14 zy1
    replace y' := y'.but1 u14 zz1
    replace r := r.but1 u14 zr1
    refine own_putB 0 H rfl rfl (by decide) fun w15 H u15 => ?_
    replace y := y.but1 u15 zy
    replace y' := y'.but1 u15 zz
    replace r := r.but1 u15 zr
    replace H : Own w0 w15 [(g4, 46, fv (rF (pkOf b) (oBad b)) D' (rF (pkOf b) (oBad b)).body.length j'), (g3, 50, ov (rO (pkOf b) (oBad b))), (g2, 46, fv (rF (pkOf b) (oBad b)) D (rF (pkOf b) (oBad b)).body.length j), (g1, 50, ov (rO (pkOf b) (oBad b)))] := H
    refine ifN (fun h => absurd rfl h) (fun _ => ?_)
    refine ld_ou (H.bk 3 rfl) ?_
    refine ld_ou (H.bk 1 rfl) ?_
    refine ifNO ?_
    refine ld_fr (f := rF (pkOf b) (oBad b)) (H.bk 2 rfl) ?_
    refine ld_fr (f := rF (pkOf b) (oBad b)) (H.bk 0 rfl) ?_
    have hfl : (rF (pkOf b) (oBad b)).body.length ≤ 100000000000000 := by
      unfold rF
      split
      · unfold ofF uBody pkOf
        simp only [List.length_drop, List.length_take]
        omega
      · exact Nat.zero_le _
    refine call_of (sameFrame_t y y' hfl) ?_
    rintro e w16 ⟨rfl, k16⟩
    replace H := H.call k16
    replace r := r.bel k16
    refine ⟨_, rfl, ifNot (fun h => by cases h) (fun _ => ?_)⟩
    refine call_of (kept_t r (hB.bel H.bel) (by omega)) ?_
    rintro e w17 ⟨rfl, k17⟩
    refine ⟨_, rfl, ifNot (fun h => by cases h) (fun _ => ?_)⟩
    refine let_as ((i + 1 : Nat) : Int) (by rw [w64 (by omega) (by omega)]; omega) ?_
    have kk := ih (i + 1) w17 (by omega) (by omega) (H.bel.trans k17)
    with_reducible apply kk
theorem TunnelOpens_t {w : World} {A : Option Addr} {n c : Nat} (h : RawsC w A n ∧ n ≤ 1000000000000) : Calls Try.prog 8 #[.slice A n c] w (Yes w) := by
  obtain ⟨hs, hn⟩ := h
  refine weftlaw7_TunnelOpens.run ?_
  unfold weftlaw7_TunnelOpens.s
  refine call_of (begun_t w) ?_
  rintro e w1 ⟨rfl, k1⟩
  refine ⟨_, rfl, ifNot (fun h => by cases h) (fun _ => ?_)⟩
  refine ⟨n + 1, ?_⟩
  have k : weftlaw7_TunnelOpens.L1 (n + 1) A n c 0 w1 (Yes w) := TunnelOpens_l hs (by omega) (n + 1) 0 w1 (by omega) (by omega) k1
  with_reducible apply k
end Go.Proofs.YtleelkkddjldnaaS
