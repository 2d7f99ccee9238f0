/- Package weftlaw6, law.go: head.
   Conditions: the package variables are as they were laid. -/
import Derived.Test.YtchdcdmdbjkihaaDoorSLawC
import Derived.Test.YtchdcdmdbjkihaaDoorSLawB
namespace Go.Proofs.YtchdcdmdbjkihaaDoorS
open Go Go.RowKit Go.Proofs Go.Proofs.YtchdcdmdbjkihaaDoorX
set_option maxRecDepth 100000
set_option linter.unusedVariables false
set_option linter.unusedSimpArgs false

def icz : Ic := ⟨0, 0, 0, []⟩
theorem icz_fine : icz.Fine := ⟨by decide, by decide, by decide, Bytes.nil, by decide⟩
theorem pz_fine : pz.Fine := ⟨by decide, by decide, by decide, by decide, by decide, by decide, by decide, Bytes.nil, Bytes.nil, by decide, by decide⟩
def req6 : Pk := ⟨0, 7, false, false, 0, 1, 1, 167838211, 167904004, [131, 3, 4, 0], [8, 0, 51, 154, 0, 1, 0, 2, 97, 98, 99]⟩
theorem req6_fine : req6.Fine := by
  refine ⟨by decide, by decide, by decide, by decide, by decide, by decide, by decide, ?_, ?_, by decide, by decide⟩
  · intro x hx
    revert x
    decide
  · intro x hx
    revert x
    decide
theorem request_c (w : World) : Calls Tryd.prog 32 #[] w (fun e w' => Bel w w' ∧ ∃ A c B d, e = .returned (.agg (pb req6 A 4 c B 11 d).toArray) ∧ PkAt w' req6 A 4 c B 11 d) := by
  refine weftlaw6_request.run ?_
  unfold weftlaw6_request.s
  refine own_new (l := pb pz none 0 0 none 0 0) (Own.refl w) fun g1 w1 H => ?_
  refine call_of (small_c w1) ?_
  rintro e w2 ⟨k2, A, c, B, d, rfl, y, f1, f2⟩
  have o1 := H.old 0 rfl f1
  replace H := H.call k2
  refine ⟨_, _, _, _, _, _, _, _, _, _, _, _, _, _, _, rfl, ?_⟩
  refine own_newC (l := pb pz none 0 0 none 0 0) H fun g2 w3 H k3 hg => ?_
  have z := y.opts.newer hg
  have y1 := y.opts.bel k3
  refine own_putB 0 H rfl rfl (by decide) fun w4 H u4 => ?_
  replace y1 := y1.but1 u4 z
  replace H : Own w w4 [(g2, 39, pb small6 A 4 c B 10 d), (g1, 39, pb pz none 0 0 none 0 0)] := H
  refine own_setB 0 H rfl (Nat.lt_of_lt_of_le (by decide : 6 < 11) (Nat.le_refl 11)) fun w5 H u5 => ?_
  replace y1 := y1.but1 u5 z
  refine own_newB (l := bv req6.body) H fun g3 w6 H k6 => ?_
  replace y1 := y1.bel k6
  refine own_setB 1 H rfl (Nat.lt_of_lt_of_le (by decide : 10 < 11) (Nat.le_refl 11)) fun w7 H u7 => ?_
  replace y1 := y1.but1 u7 z
  replace H : Own w w7 [(g3, 5, bv req6.body), (g2, 39, pb req6 A 4 c (some ⟨g3, 0, none⟩) 11 11), (g1, 39, pb pz none 0 0 none 0 0)] := H
  refine ld_pkt (H.bk 1 rfl) ?_
  refine put_pkt 2 H rfl rfl fun w8 H u8 => ?_
  replace y1 := y1.but u8 o1
  refine ⟨H.bel, A, c, some ⟨g3, 0, none⟩, 11, rfl, y1, (H.bk 0 rfl).by, y.co, Nat.le_refl _⟩
theorem head_t {w : World} (hg : Gl w) (k : Int) : Calls Tryd.prog 9 #[.int .i64 k] w (Yes w) := by
  refine weftlaw6_head.run ?_
  unfold weftlaw6_head.s
  have zero : (0 : Int) ≤ 0 ∧ (0 : Int) ≤ 255 := by decide
  have zs : (0 : Int) ≤ 0 ∧ (0 : Int) ≤ 4294967295 := by decide
  refine ifE (fun _ => ?_) (fun _ => ?_)
  · refine call_of (request_c w) ?_
    rintro e w1 ⟨k1, A, c, B, d, rfl, y⟩
    refine ⟨_, _, _, _, _, _, _, _, _, _, _, _, _, _, _, rfl, ?_⟩
    refine call_of (plays_t (o := ⟨1, req6.body, icz, pz, 0, 0, 0, 0⟩) (hg.bel k1) ⟨req6_fine.body, icz_fine, pz_fine, zero, zero, zs⟩ (Z := B) (zn := 11) (zc := d) (C := none) (cn := 0) (cc := 0) (A := none) (n := 0) (c := 0) (B := none) (m := 0) (d := 0) ⟨y.body, y.cb, By.nil _ _, pz_at _⟩) ?_
    rintro e w2 ⟨rfl, k2⟩
    exact ⟨_, rfl, rfl, Bel.trans k1 k2⟩
  refine ifE (fun _ => ?_) (fun _ => ?_)
  · refine own_new (l := bv [97, 98, 99]) (Own.refl w) fun g1 w1 H => ?_
    have qf : (⟨8, 0, 65538, [97, 98, 99]⟩ : Ic).Fine := ⟨by decide, by decide, by decide, by
      intro x hx
      revert x
      decide, by decide⟩
    refine call_of (plays_t (o := ⟨2, [], ⟨8, 0, 65538, [97, 98, 99]⟩, pz, 0, 0, 0, 0⟩) (hg.bel H.bel) ⟨Bytes.nil, qf, pz_fine, zero, zero, zs⟩ (Z := none) (zn := 0) (zc := 0) (C := some ⟨g1, 0, none⟩) (cn := 3) (cc := 3) (A := none) (n := 0) (c := 0) (B := none) (m := 0) (d := 0) ⟨By.nil _ _, Nat.le_refl _, (H.bk 0 rfl).by, pz_at _⟩) ?_
    rintro e w2 ⟨rfl, k2⟩
    exact ⟨_, rfl, rfl, H.bel.trans k2⟩
  refine ifE (fun _ => ?_) (fun _ => ?_)
  · refine call_of (small_c w) ?_
    rintro e w1 ⟨k1, A, c, B, d, rfl, y, _, _⟩
    refine ⟨_, _, _, _, _, _, _, _, _, _, _, _, _, _, _, rfl, ?_⟩
    refine call_of (plays_t (o := ⟨3, [], icz, small6, 11, 0, 0, 167838209⟩) (hg.bel k1) ⟨Bytes.nil, icz_fine, small6_fine, by decide, zero, by decide⟩ (Z := none) (zn := 0) (zc := 0) (C := none) (cn := 0) (cc := 0) (A := A) (n := 4) (c := c) (B := B) (m := 10) (d := d) ⟨By.nil _ _, Nat.le_refl _, By.nil _ _, y⟩) ?_
    rintro e w2 ⟨rfl, k2⟩
    exact ⟨_, rfl, rfl, Bel.trans k1 k2⟩
  refine ifE (fun _ => ?_) (fun _ => ?_)
  · refine call_of (request_c w) ?_
    rintro e w1 ⟨k1, A, c, B, d, rfl, y⟩
    refine ⟨_, _, _, _, _, _, _, _, _, _, _, _, _, _, _, rfl, ?_⟩
    refine call_of (plays_t (o := ⟨4, [], icz, req6, 0, 0, 0, 0⟩) (hg.bel k1) ⟨Bytes.nil, icz_fine, req6_fine, zero, zero, zs⟩ (Z := none) (zn := 0) (zc := 0) (C := none) (cn := 0) (cc := 0) (A := A) (n := 4) (c := c) (B := B) (m := 11) (d := d) ⟨By.nil _ _, Nat.le_refl _, By.nil _ _, y⟩) ?_
    rintro e w2 ⟨rfl, k2⟩
    exact ⟨_, rfl, rfl, Bel.trans k1 k2⟩
  · refine call_of (small_c w) ?_
    rintro e w1 ⟨k1, A, c, B, d, rfl, y, _, _⟩
    refine ⟨_, _, _, _, _, _, _, _, _, _, _, _, _, _, _, rfl, ?_⟩
    refine call_of (Fault6_c small6_fine y (t := 11) (k := 0) (x := 0) (src := 167838209) (by decide) zero (by decide)) ?_
    rintro e w2 ⟨k2, A1, n1, c1, B1, m1, d1, rfl, y1, _, _⟩
    have qf : (if faultE small6 11 0 0 167838209 = 0 then faultP small6 11 0 0 167838209 else pz).Fine := by
      by_cases h0 : faultE small6 11 0 0 167838209 = 0
      · rw [if_pos h0]
        have he := faultE_err h0
        have hm : mayB 11 0 0 = true := by rw [mayB_11, if_neg (by decide)]; rfl
        exact madeP_fine (faultI_fine small6_fine he (by decide) (by decide) hm) (by have := (faultI_len he 11 0 0).2; omega) (by decide) (by decide) small6_fine.src
      · rw [if_neg h0]; exact pz_fine
    refine ⟨_, _, _, _, _, _, _, _, _, _, _, _, _, _, _, _, rfl, ?_⟩
    generalize (if faultE small6 11 0 0 167838209 = 0 then faultP small6 11 0 0 167838209 else pz) = q at *
    refine own_mk (pb pz none 0 0 none 0 0) (Own.refl w2) rfl rfl fun g3 w3 H k3 _ => ?_
    replace H : Own w2 w3 [(g3, 39, pb q A1 n1 c1 B1 m1 d1)] := H
    refine ld_pkt (H.bk 0 rfl) ?_
    refine call_of (plays_t (o := ⟨5, [], icz, q, 0, 0, 0, 0⟩) (((hg.bel k1).bel k2).bel H.bel) ⟨Bytes.nil, icz_fine, qf, zero, zero, zs⟩ (Z := none) (zn := 0) (zc := 0) (C := none) (cn := 0) (cc := 0) (A := A1) (n := n1) (c := c1) (B := B1) (m := m1) (d := d1) ⟨By.nil _ _, Nat.le_refl _, By.nil _ _, y1.bel H.bel⟩) ?_
    rintro e w4 ⟨rfl, k4⟩
    exact ⟨_, rfl, rfl, Bel.trans (Bel.trans k1 k2) (H.bel.trans k4)⟩

end Go.Proofs.YtchdcdmdbjkihaaDoorS
