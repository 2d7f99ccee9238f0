/- Package weftlaw7: TunnelMemory.
   Conditions: the arguments are as a row's arguments are. -/
import Derived.Test.YtphbdmafchjjeaaSMemG
namespace Go.Proofs.YtphbdmafchjjeaaS
open Go Go.RowKit Go.Proofs Go.Proofs.YtphbdmafchjjeaaX
set_option maxRecDepth 100000
set_option linter.unusedVariables false
set_option linter.unusedSectionVars false
set_option linter.unusedSimpArgs false

section
variable {w0 : World} {a : Ag} (ok : a.Ok w0) {G : Gs}
include ok
theorem tm_j8 {w : World} {cw co cu : Nat} (H : Fin6 w0 a G w) :
    weftlaw7_TunnelMemory.J8 a.src G.g4 G.g5 G.g7 (some ⟨G.gs, 0, none⟩) a.S a.S G.Aw (0 + a.S) cw G.gb (some ⟨G.gr, 0, none⟩) a.R a.R G.Ao (0 + a.R) co G.gd (some ⟨G.gu, 0, none⟩) a.U a.U G.Au (0 + a.U) cu G.gf (some ⟨G.ga, 0, none⟩) a.f.body.length a.f.body.length (some ⟨G.gc, 0, none⟩) a.f.body.length a.f.body.length (some ⟨G.ge, 0, none⟩) a.db.length a.db.length (some ⟨G.gs, 0, none⟩) a.S a.S (some ⟨G.gr, 0, none⟩) a.R a.R (some ⟨G.gu, 0, none⟩) a.U a.U w (Yes w0) := by
  have hS := ok.S_le
  have hR := ok.R_le
  have hU := ok.U_le
  have hn := ok.n_le
  have hm := ok.m
  unfold weftlaw7_TunnelMemory.J8; intros
  rw [weftlaw7_TunnelMemory.j8_eq]
  refine call_of (full_t H.b1 (by omega)) ?_
  rintro e w101 ⟨rfl, k101⟩
  refine ⟨_, rfl, ?_⟩
  refine ifNot (fun h => by cases h) (fun _ => ?_)
  replace H := H.call k101
  refine call_of (full_t H.b2 (by omega)) ?_
  rintro e w102 ⟨rfl, k102⟩
  refine ⟨_, rfl, ?_⟩
  refine ifNot (fun h => by cases h) (fun _ => ?_)
  replace H := H.call k102
  refine call_of (full_t H.b3 (by omega)) ?_
  rintro e w103 ⟨rfl, k103⟩
  refine ⟨_, rfl, ?_⟩
  refine ifNot (fun h => by cases h) (fun _ => ?_)
  replace H := H.call k103
  refine call_of (full_t H.s (by omega)) ?_
  rintro e w104 ⟨rfl, k104⟩
  refine ⟨_, rfl, ?_⟩
  refine ifNot (fun h => by cases h) (fun _ => ?_)
  replace H := H.call k104
  refine call_of (full_t H.r (by omega)) ?_
  rintro e w105 ⟨rfl, k105⟩
  refine ⟨_, rfl, ?_⟩
  refine ifNot (fun h => by cases h) (fun _ => ?_)
  replace H := H.call k105
  refine call_of (full_t H.u (by omega)) ?_
  rintro e w106 ⟨rfl, k106⟩
  refine ⟨_, rfl, ?_⟩
  refine ifNot (fun h => by cases h) (fun _ => ?_)
  replace H := H.call k106
  refine ⟨_, _, _, H.own.cell 6 13 rfl rfl, ?_⟩
  refine call_of (full_t H.b1 (by omega)) ?_
  rintro e w107 ⟨rfl, k107⟩
  refine ⟨_, rfl, ?_⟩
  refine ifNot (fun h => by cases h) (fun _ => ?_)
  replace H := H.call k107
  refine ⟨_, _, _, H.own.cell 7 13 rfl rfl, ?_⟩
  refine call_of (full_t H.b2 (by omega)) ?_
  rintro e w108 ⟨rfl, k108⟩
  refine ⟨_, rfl, ?_⟩
  refine ifNot (fun h => by cases h) (fun _ => ?_)
  replace H := H.call k108
  refine ⟨_, _, _, H.own.cell 8 2 rfl rfl, ?_⟩
  refine call_of (full_t H.b3 (by omega)) ?_
  rintro e w109 ⟨rfl, k109⟩
  refine ⟨_, rfl, ?_⟩
  refine ifNot (fun h => by cases h) (fun _ => ?_)
  replace H := H.call k109
  have k := tm_j9 ok (cw := cw) (co := co) (cu := cu) H
  exact ⟨by with_reducible apply k⟩
theorem tm_l2 {cw co cu : Nat} : ∀ (q k : Nat) (w : World), a.db.length - k < q → k ≤ a.db.length → Fin6 w0 a G w →
    weftlaw7_TunnelMemory.L2 q a.src G.g4 G.g5 G.g7 (some ⟨G.gs, 0, none⟩) a.S a.S G.Aw (0 + a.S) cw G.gb (some ⟨G.gr, 0, none⟩) a.R a.R G.Ao (0 + a.R) co G.gd (some ⟨G.gu, 0, none⟩) a.U a.U G.Au (0 + a.U) cu G.gf (some ⟨G.ga, 0, none⟩) a.f.body.length a.f.body.length (some ⟨G.gc, 0, none⟩) a.f.body.length a.f.body.length (some ⟨G.ge, 0, none⟩) a.db.length a.db.length (some ⟨G.gs, 0, none⟩) a.S a.S (some ⟨G.gr, 0, none⟩) a.R a.R (some ⟨G.gu, 0, none⟩) a.U a.U (k : Int) w (Yes w0) := by
  have hS := ok.S_le
  have hR := ok.R_le
  have hU := ok.U_le
  have hn := ok.n_le
  have hm := ok.m
  have md := ok.md
  intro q
  induction q with
  | zero => intro k w h; omega
  | succ q ih =>
    intro k w hq hk H
    unfold weftlaw7_TunnelMemory.L2; intros
    rw [weftlaw7_TunnelMemory.l2_eq]
    refine ⟨_, _, _, H.own.cell 9 2 rfl rfl, ?_⟩
    refine ifD (fun h => ?_) (fun h => ?_)
    · have yb := (ok.yD.take (k := k + 1) (by omega)).cut (k := k) (m := k + 1) (by omega) (Nat.le_refl _)
      have lb : ((a.db.take (k + 1)).drop k).length = k + 1 - k := yb.len
      have hb : Bytes ((a.db.take (k + 1)).drop k) := (ok.hbD.take _).drop _
      generalize ebody : (a.db.take (k + 1)).drop k = body at yb lb hb
      have hx : ({ a.f with body := body } : Fr).Fine := ⟨ok.hf.macs, ok.hf.typ, hb, by show body.length ≤ _; omega⟩
      have hz : sErr a.o { a.f with body := body } = 0 := rnd_z ok.z (by omega)
      have he := (sErr_zero hz).2.2
      have b4 := H.own.bk 11 rfl
      have b5 := H.own.bk 10 rfl
      have b7 := H.own.bk 9 rfl
      replace yb := yb.bel H.own.bel
      refine ld_fr (f := a.f) b5 ?_
      refine own_mk (fv fz none 0 0) (Own.refl w) rfl rfl fun g16 w18 H1 _ _ => ?_
      refine ⟨_, _, _, (b7.bel H1.bel).cell 2 rfl, ?_⟩
      refine let_as ((k + 1 : Nat) : Int) (by rw [w64 (by omega) (by omega)]; omega) ?_
      refine let_as ((k + 1 : Nat) : Int) (by rw [w64 (by omega) (by omega)]; omega) ?_
      rw [Int.toNat_natCast, Int.toNat_natCast]
      refine ⟨⟨by omega, by omega⟩, ⟨by omega, by omega⟩, ⟨by omega, by omega⟩, ?_⟩
      refine own_set 0 H1 rfl (Nat.lt_of_lt_of_le (by decide : 13 < 14) (Nat.le_refl 14)) fun w22 H2 => ?_
      replace H2 : Own w w22 [(g16, 31, fv { a.f with body := body } (cutA a.D k (k + 1) 1) (k + 1 - k) (k + 1 - k))] := H2
      refine ⟨_, _, _, H2.cell 0 13 rfl rfl, ?_⟩
      refine call_of (u_o (sp := 0) (dp := 0) ok.hs (by decide) (by decide) hb (by omega) (yb.bel H2.bel)) ?_
      rintro e w24 ⟨gu, rfl, Hu⟩
      refine ⟨_, _, _, _, rfl, ?_⟩
      have H3 := Own.join H2 Hu
      refine call_of (c_o (sp := 0) (dp := 0) ok.hs (by decide) (by decide) hb (by omega) (Hu.bk 0 rfl).by (Nat.le_refl _)) ?_
      rintro e w28 ⟨gy, rfl, Hy⟩
      refine ⟨_, _, _, _, _, _, rfl, ?_⟩
      have H4 := Own.join H3 Hy
      refine own_mk (dv 0 0 none 0 0) H4 rfl rfl fun g34 w36 H5 _ _ => ?_
      refine ld_fr (f := { a.f with body := body }) (H5.bk 3 rfl) ?_
      refine call_of (raw_o hx he (yb.bel H5.bel)) ?_
      rintro e w51 ⟨gz, rfl, Hz⟩
      refine ⟨_, _, _, _, rfl, ?_⟩
      have H6 := Own.join H5 Hz
      refine call_of (fr_o hx he (Hz.bk 0 rfl).by (Nat.le_refl _)) ?_
      rintro e w55 ⟨gw, rfl, Hw⟩
      have H7 := Own.join H6 Hw
      refine ⟨_, _, _, _, _, _, _, _, _, _, _, _, _, _, _, _, _, rfl, ?_⟩
      refine own_mk (fv fz none 0 0) H7 rfl rfl fun g72 w74 H8 _ _ => ?_
      refine ld_ou (o := a.o) (b4.bel H8.bel) ?_
      refine ld_fr (f := { a.f with body := body }) (H8.bk 6 rfl) ?_
      refine call_of (seal_o ok.ho hx hz (yb.bel H8.bel)) ?_
      rintro e w95 ⟨gs, rfl, Hs⟩
      refine ⟨_, _, _, _, rfl, ?_⟩
      have H9 := Own.join H8 Hs
      refine call_of (open_o ok.ho hx hz (Hs.bk 0 rfl).by (Nat.le_refl _)) ?_
      rintro e w99 ⟨gq, rfl, Hq⟩
      have H10 := Own.join H9 Hq
      refine ⟨_, _, _, _, _, _, _, _, _, _, _, _, _, _, _, _, _, _, _, _, _, _, _, rfl, ?_⟩
      refine own_new (l := ov oz) H10 fun g122 w123 H11 => ?_
      refine own_new (l := fv fz none 0 0) H11 fun g124 w125 H12 => ?_
      refine own_putB 1 H12 rfl rfl (Nat.le_refl 6) fun w126 H13 u13 => ?_
      refine own_putB 0 H13 rfl rfl (Nat.le_refl 14) fun w127 H14 u14 => ?_
      replace H14 : Own w w127 [(g124, 31, fv { a.f with body := body } (some ⟨gq, 0, none⟩) body.length body.length), (g122, 26, ov a.o), (gq, 5, bv body), (gs, 5, bv (sOut a.o { a.f with body := body })),
        (g72, 31, fv { a.f with body := body } (some ⟨gw, 0, none⟩) body.length body.length), (gw, 5, bv body), (gz, 5, bv ({ a.f with body := body } : Fr).bytes), (g34, 33, dv 0 0 (some ⟨gy, 0, none⟩) body.length body.length), (gy, 5, bv body), (gu, 5, bv (uBytes a.src a.src 0 0 body true)),
        (g16, 31, fv { a.f with body := body } (cutA a.D k (k + 1) 1) (k + 1 - k) (k + 1 - k))] := H14
      refine ifN (fun h => absurd rfl h) (fun _ => ?_)
      refine ifN (fun h => absurd rfl h) (fun _ => ?_)
      refine ifN (fun h => absurd rfl h) (fun _ => ?_)
      refine ifN (fun h => absurd rfl h) (fun _ => ?_)
      refine ifN (fun h => absurd rfl h) (fun _ => ?_)
      refine ifN (fun h => absurd rfl h) (fun _ => ?_)
      refine ⟨_, _, _, H14.cell 7 2 rfl rfl, _, _, _, H14.cell 10 13 rfl rfl, ?_⟩
      refine call_of (same_t (H14.bk 8 rfl).by (yb.bel H14.bel) (by omega)) ?_
      rintro e w130 ⟨rfl, k130⟩
      refine ⟨_, rfl, ?_⟩
      refine ifNot (fun h => by cases h) (fun _ => ?_)
      replace H14 := H14.call k130
      refine ⟨_, _, _, H14.cell 4 13 rfl rfl, _, _, _, H14.cell 10 13 rfl rfl, ?_⟩
      refine call_of (same_t (H14.bk 5 rfl).by (yb.bel H14.bel) (by omega)) ?_
      rintro e w135 ⟨rfl, k135⟩
      refine ⟨_, rfl, ?_⟩
      refine ifNot (fun h => by cases h) (fun _ => ?_)
      replace H14 := H14.call k135
      refine ⟨_, _, _, H14.cell 0 13 rfl rfl, _, _, _, H14.cell 10 13 rfl rfl, ?_⟩
      refine call_of (same_t (H14.bk 2 rfl).by (yb.bel H14.bel) (by omega)) ?_
      rintro e w140 ⟨rfl, k140⟩
      refine ⟨_, rfl, ?_⟩
      refine ifNot (fun h => by cases h) (fun _ => ?_)
      replace H14 := H14.call k140
      refine let_as ((k + 1 : Nat) : Int) (by rw [w64 (by omega) (by omega)]; omega) ?_
      exact ih (k + 1) w140 (by omega) (by omega) (H.call H14.bel) ..
    · have kk := tm_j8 ok (cw := cw) (co := co) (cu := cu) H
      exact ⟨by with_reducible apply kk⟩
theorem tm_j7 {w : World} {cw co cu : Nat} (H : Fin6 w0 a G w) :
    weftlaw7_TunnelMemory.J7 a.src G.g4 G.g5 G.g7 (some ⟨G.gs, 0, none⟩) a.S a.S G.Aw (0 + a.S) cw G.gb (some ⟨G.gr, 0, none⟩) a.R a.R G.Ao (0 + a.R) co G.gd (some ⟨G.gu, 0, none⟩) a.U a.U G.Au (0 + a.U) cu G.gf (some ⟨G.ga, 0, none⟩) a.f.body.length a.f.body.length (some ⟨G.gc, 0, none⟩) a.f.body.length a.f.body.length (some ⟨G.ge, 0, none⟩) a.db.length a.db.length (some ⟨G.gs, 0, none⟩) a.S a.S (some ⟨G.gr, 0, none⟩) a.R a.R (some ⟨G.gu, 0, none⟩) a.U a.U w (Yes w0) := by
  unfold weftlaw7_TunnelMemory.J7; intros
  rw [weftlaw7_TunnelMemory.j7_eq]
  refine ⟨a.db.length + 1, ?_⟩
  have k := tm_l2 ok (G := G) (cw := cw) (co := co) (cu := cu) (a.db.length + 1) 0 w (by omega) (by omega) H
  exact k ..
theorem tm_j6 {w : World} {cw co cu : Nat} (H : Fin6 w0 a G w) :
    weftlaw7_TunnelMemory.J6 a.src G.g4 G.g5 G.g7 (some ⟨G.gs, 0, none⟩) a.S a.S G.Aw (0 + a.S) cw G.gb (some ⟨G.gr, 0, none⟩) a.R a.R G.Ao (0 + a.R) co G.gd (some ⟨G.gu, 0, none⟩) a.U a.U G.Au (0 + a.U) cu G.gf (some ⟨G.ga, 0, none⟩) a.f.body.length a.f.body.length (some ⟨G.gc, 0, none⟩) a.f.body.length a.f.body.length (some ⟨G.ge, 0, none⟩) a.db.length a.db.length (some ⟨G.gs, 0, none⟩) a.S a.S (some ⟨G.gr, 0, none⟩) a.R a.R (some ⟨G.gu, 0, none⟩) a.U a.U w (Yes w0) := by
  have hS := ok.S_le
  have hR := ok.R_le
  have hU := ok.U_le
  have hn := ok.n_le
  have hm := ok.m
  unfold weftlaw7_TunnelMemory.J6; intros
  rw [weftlaw7_TunnelMemory.j6_eq]
  refine ⟨_, _, _, H.own.cell 6 13 rfl rfl, ?_⟩
  refine call_of (full_t H.b1 (by omega)) ?_
  rintro e w110 ⟨rfl, k110⟩
  refine ⟨_, rfl, ?_⟩
  refine ifNot (fun h => by cases h) (fun _ => ?_)
  replace H := H.call k110
  refine ⟨_, _, _, H.own.cell 7 13 rfl rfl, ?_⟩
  refine call_of (full_t H.b2 (by omega)) ?_
  rintro e w111 ⟨rfl, k111⟩
  refine ⟨_, rfl, ?_⟩
  refine ifNot (fun h => by cases h) (fun _ => ?_)
  replace H := H.call k111
  refine ⟨_, _, _, H.own.cell 8 2 rfl rfl, ?_⟩
  refine call_of (full_t H.b3 (by omega)) ?_
  rintro e w112 ⟨rfl, k112⟩
  refine ⟨_, rfl, ?_⟩
  refine ifNot (fun h => by cases h) (fun _ => ?_)
  replace H := H.call k112
  refine call_of (full_t H.s (by omega)) ?_
  rintro e w113 ⟨rfl, k113⟩
  refine ⟨_, rfl, ?_⟩
  refine ifNot (fun h => by cases h) (fun _ => ?_)
  replace H := H.call k113
  refine call_of (full_t H.r (by omega)) ?_
  rintro e w114 ⟨rfl, k114⟩
  refine ⟨_, rfl, ?_⟩
  refine ifNot (fun h => by cases h) (fun _ => ?_)
  replace H := H.call k114
  refine call_of (full_t H.u (by omega)) ?_
  rintro e w115 ⟨rfl, k115⟩
  refine ⟨_, rfl, ?_⟩
  refine ifNot (fun h => by cases h) (fun _ => ?_)
  replace H := H.call k115
  have k := tm_j7 ok (cw := cw) (co := co) (cu := cu) H
  exact ⟨by with_reducible apply k⟩
theorem tm_j5 {w : World} {cw co cu : Nat} (H : Fin6 w0 a G w) :
    weftlaw7_TunnelMemory.J5 a.src G.g4 G.g5 G.g7 (some ⟨G.gs, 0, none⟩) a.S a.S G.Aw (0 + a.S) cw G.gb (some ⟨G.gr, 0, none⟩) a.R a.R G.Ao (0 + a.R) co G.gd (some ⟨G.gu, 0, none⟩) a.U a.U G.Au (0 + a.U) cu G.gf (some ⟨G.ga, 0, none⟩) a.f.body.length a.f.body.length (some ⟨G.gc, 0, none⟩) a.f.body.length a.f.body.length (some ⟨G.ge, 0, none⟩) a.db.length a.db.length (some ⟨G.gs, 0, none⟩) a.S a.S (some ⟨G.gr, 0, none⟩) a.R a.R (some ⟨G.gu, 0, none⟩) a.U a.U w (Yes w0) := by
  have hS := ok.S_le
  have hR := ok.R_le
  have hU := ok.U_le
  have hn := ok.n_le
  have hm := ok.m
  unfold weftlaw7_TunnelMemory.J5; intros
  rw [weftlaw7_TunnelMemory.j5_eq]
  refine call_of (full_t H.b1 (by omega)) ?_
  rintro e w116 ⟨rfl, k116⟩
  refine ⟨_, rfl, ?_⟩
  refine ifNot (fun h => by cases h) (fun _ => ?_)
  replace H := H.call k116
  refine call_of (full_t H.b2 (by omega)) ?_
  rintro e w117 ⟨rfl, k117⟩
  refine ⟨_, rfl, ?_⟩
  refine ifNot (fun h => by cases h) (fun _ => ?_)
  replace H := H.call k117
  refine call_of (full_t H.b3 (by omega)) ?_
  rintro e w118 ⟨rfl, k118⟩
  refine ⟨_, rfl, ?_⟩
  refine ifNot (fun h => by cases h) (fun _ => ?_)
  replace H := H.call k118
  refine call_of (full_t H.s (by omega)) ?_
  rintro e w119 ⟨rfl, k119⟩
  refine ⟨_, rfl, ?_⟩
  refine ifNot (fun h => by cases h) (fun _ => ?_)
  replace H := H.call k119
  refine call_of (full_t H.r (by omega)) ?_
  rintro e w120 ⟨rfl, k120⟩
  refine ⟨_, rfl, ?_⟩
  refine ifNot (fun h => by cases h) (fun _ => ?_)
  replace H := H.call k120
  refine call_of (full_t H.u (by omega)) ?_
  rintro e w121 ⟨rfl, k121⟩
  refine ⟨_, rfl, ?_⟩
  refine ifNot (fun h => by cases h) (fun _ => ?_)
  replace H := H.call k121
  have k := tm_j6 ok (cw := cw) (co := co) (cu := cu) H
  exact ⟨by with_reducible apply k⟩
theorem tm_l1s {w : World} {cw co cu : Nat} {Y1 : Option Addr} {y1n y1c : Nat} {Y2 : Option Addr} {y2n y2c : Nat} {Y3 : Option Addr} {y3n y3c : Nat} {Y4 : Option Addr} {y4n y4c : Nat} {Y5 : Option Addr} {y5n y5c : Nat} {Y6 : Option Addr} {y6n y6c : Nat} (H : Fin6 w0 a G w) {q : Nat} {y : Int} (hy : 1 ≤ y ∧ y ≤ 70000)
    (rest : ∀ w', Fin6 w0 a G w' → weftlaw7_TunnelMemory.L1 q a.src G.g4 G.g5 G.g7 (some ⟨G.gs, 0, none⟩) a.S a.S G.Aw (0 + a.S) cw G.gb (some ⟨G.gr, 0, none⟩) a.R a.R G.Ao (0 + a.R) co G.gd (some ⟨G.gu, 0, none⟩) a.U a.U G.Au (0 + a.U) cu G.gf (some ⟨G.ga, 0, none⟩) a.f.body.length a.f.body.length (some ⟨G.gc, 0, none⟩) a.f.body.length a.f.body.length (some ⟨G.ge, 0, none⟩) a.db.length a.db.length (some ⟨G.gs, 0, none⟩) a.S a.S (some ⟨G.gr, 0, none⟩) a.R a.R (some ⟨G.gu, 0, none⟩) a.U a.U (y + 69999) w' (Yes w0)) : weftlaw7_TunnelMemory.L1 (q + 1) a.src G.g4 G.g5 G.g7 (some ⟨G.gs, 0, none⟩) a.S a.S G.Aw (0 + a.S) cw G.gb (some ⟨G.gr, 0, none⟩) a.R a.R G.Ao (0 + a.R) co G.gd (some ⟨G.gu, 0, none⟩) a.U a.U G.Au (0 + a.U) cu G.gf Y1 y1n y1c Y2 y2n y2c Y3 y3n y3c Y4 y4n y4c Y5 y5n y5c Y6 y6n y6c y w (Yes w0) := by
  have hS := ok.S_le
  have hR := ok.R_le
  have hU := ok.U_le
  have hn := ok.n_le
  have hm := ok.m
  unfold weftlaw7_TunnelMemory.L1; intros
  rw [weftlaw7_TunnelMemory.l1_eq]
  refine ifT hy.2 ?_
  refine ⟨_, _, _, H.own.cell 6 13 rfl rfl, _, _, _, H.own.cell 6 13 rfl rfl, _, _, _, H.own.cell 6 13 rfl rfl, ?_⟩
  refine let_as 0 (by rw [w64 (by omega) (by omega)]; omega) ?_
  refine let_as 0 (if_pos (by omega)) ?_
  refine call_of (longer_0 _ _ _ _ _) ?_
  rintro e v0 ⟨rfl, kv0⟩
  refine ⟨_, _, _, rfl, ?_⟩
  replace H := H.call kv0
  refine ⟨_, _, _, H.own.cell 7 13 rfl rfl, _, _, _, H.own.cell 7 13 rfl rfl, _, _, _, H.own.cell 7 13 rfl rfl, ?_⟩
  refine let_as 0 (by rw [w64 (by omega) (by omega)]; omega) ?_
  refine let_as 0 (if_pos (by omega)) ?_
  refine call_of (longer_0 _ _ _ _ _) ?_
  rintro e v1 ⟨rfl, kv1⟩
  refine ⟨_, _, _, rfl, ?_⟩
  replace H := H.call kv1
  refine ⟨_, _, _, H.own.cell 8 2 rfl rfl, _, _, _, H.own.cell 8 2 rfl rfl, _, _, _, H.own.cell 8 2 rfl rfl, ?_⟩
  refine let_as 0 (by rw [w64 (by omega) (by omega)]; omega) ?_
  refine let_as 0 (if_pos (by omega)) ?_
  refine call_of (longer_0 _ _ _ _ _) ?_
  rintro e v2 ⟨rfl, kv2⟩
  refine ⟨_, _, _, rfl, ?_⟩
  replace H := H.call kv2
  refine let_as 0 (by rw [w64 (by omega) (by omega)]; omega) ?_
  refine let_as 0 (if_pos (by omega)) ?_
  refine call_of (longer_0 _ _ _ _ _) ?_
  rintro e v3 ⟨rfl, kv3⟩
  refine ⟨_, _, _, rfl, ?_⟩
  replace H := H.call kv3
  refine let_as 0 (by rw [w64 (by omega) (by omega)]; omega) ?_
  refine let_as 0 (if_pos (by omega)) ?_
  refine call_of (longer_0 _ _ _ _ _) ?_
  rintro e v4 ⟨rfl, kv4⟩
  refine ⟨_, _, _, rfl, ?_⟩
  replace H := H.call kv4
  refine let_as 0 (by rw [w64 (by omega) (by omega)]; omega) ?_
  refine let_as 0 (if_pos (by omega)) ?_
  refine call_of (longer_0 _ _ _ _ _) ?_
  rintro e v5 ⟨rfl, kv5⟩
  refine ⟨_, _, _, rfl, ?_⟩
  replace H := H.call kv5
  refine call_of (full_t H.b1 (by omega)) ?_
  rintro e w122 ⟨rfl, k122⟩
  refine ⟨_, rfl, ?_⟩
  refine ifNot (fun h => by cases h) (fun _ => ?_)
  replace H := H.call k122
  refine call_of (full_t H.b2 (by omega)) ?_
  rintro e w123 ⟨rfl, k123⟩
  refine ⟨_, rfl, ?_⟩
  refine ifNot (fun h => by cases h) (fun _ => ?_)
  replace H := H.call k123
  refine call_of (full_t H.b3 (by omega)) ?_
  rintro e w124 ⟨rfl, k124⟩
  refine ⟨_, rfl, ?_⟩
  refine ifNot (fun h => by cases h) (fun _ => ?_)
  replace H := H.call k124
  refine call_of (full_t H.s (by omega)) ?_
  rintro e w125 ⟨rfl, k125⟩
  refine ⟨_, rfl, ?_⟩
  refine ifNot (fun h => by cases h) (fun _ => ?_)
  replace H := H.call k125
  refine call_of (full_t H.r (by omega)) ?_
  rintro e w126 ⟨rfl, k126⟩
  refine ⟨_, rfl, ?_⟩
  refine ifNot (fun h => by cases h) (fun _ => ?_)
  replace H := H.call k126
  refine call_of (full_t H.u (by omega)) ?_
  rintro e w127 ⟨rfl, k127⟩
  refine ⟨_, rfl, ?_⟩
  refine ifNot (fun h => by cases h) (fun _ => ?_)
  replace H := H.call k127
  refine let_as (y + 69999) (w64 (by omega) (by omega)) ?_
  exact rest _ H ..
theorem tm_l1 {w : World} {cw co cu : Nat} {Y1 : Option Addr} {y1n y1c : Nat} {Y2 : Option Addr} {y2n y2c : Nat} {Y3 : Option Addr} {y3n y3c : Nat} {Y4 : Option Addr} {y4n y4c : Nat} {Y5 : Option Addr} {y5n y5c : Nat} {Y6 : Option Addr} {y6n y6c : Nat} (H : Fin6 w0 a G w) : weftlaw7_TunnelMemory.L1 3 a.src G.g4 G.g5 G.g7 (some ⟨G.gs, 0, none⟩) a.S a.S G.Aw (0 + a.S) cw G.gb (some ⟨G.gr, 0, none⟩) a.R a.R G.Ao (0 + a.R) co G.gd (some ⟨G.gu, 0, none⟩) a.U a.U G.Au (0 + a.U) cu G.gf Y1 y1n y1c Y2 y2n y2c Y3 y3n y3c Y4 y4n y4c Y5 y5n y5c Y6 y6n y6c 1 w (Yes w0) := by
  refine tm_l1s ok H (by decide) fun w1 H1 => ?_
  refine tm_l1s ok H1 (y := 1 + 69999) (by decide) fun w2 H2 => ?_
  unfold weftlaw7_TunnelMemory.L1; intros
  rw [weftlaw7_TunnelMemory.l1_eq]
  refine ifF (by decide) ?_
  have k := tm_j5 ok (cw := cw) (co := co) (cu := cu) H2
  exact ⟨by with_reducible apply k⟩
theorem tm_j4 {w : World} {cw co cu : Nat} (H : OF w0 w (TmL a G (sOut a.o a.f) a.f.bytes a.u (List.replicate a.f.body.length 1) (List.replicate a.f.body.length 2) (List.replicate a.db.length 3)) (TmC a G)) :
    weftlaw7_TunnelMemory.J4 a.src G.g4 G.g5 G.g7 (some ⟨G.gs, 0, none⟩) a.S a.S G.Aw (0 + a.S) cw G.gb (some ⟨G.gr, 0, none⟩) a.R a.R G.Ao (0 + a.R) co G.gd (some ⟨G.gu, 0, none⟩) a.U a.U G.Au (0 + a.U) cu G.gf w (Yes w0) := by
  have hS := ok.S_le
  have hR := ok.R_le
  have hU := ok.U_le
  have hn := ok.n_le
  have hm := ok.m
  unfold weftlaw7_TunnelMemory.J4; intros
  rw [weftlaw7_TunnelMemory.j4_eq]
  refine call_of (fill_tk 0 4 H rfl rfl (by omega)) ?_
  rintro e w128 ⟨rfl, H128⟩
  refine ⟨rfl, ?_⟩
  replace H : OF w0 w128 (TmL a G (List.replicate a.S 4) a.f.bytes a.u (List.replicate a.f.body.length 1) (List.replicate a.f.body.length 2) (List.replicate a.db.length 3)) (TmC a G) := H128
  refine call_of (fill_tk 1 5 H rfl rfl (by omega)) ?_
  rintro e w129 ⟨rfl, H129⟩
  refine ⟨rfl, ?_⟩
  replace H : OF w0 w129 (TmL a G (List.replicate a.S 4) (List.replicate a.R 5) a.u (List.replicate a.f.body.length 1) (List.replicate a.f.body.length 2) (List.replicate a.db.length 3)) (TmC a G) := H129
  refine call_of (fill_tk 2 6 H rfl rfl (by omega)) ?_
  rintro e w130 ⟨rfl, H130⟩
  refine ⟨rfl, ?_⟩
  replace H : OF w0 w130 (TmL a G (List.replicate a.S 4) (List.replicate a.R 5) (List.replicate a.U 6) (List.replicate a.f.body.length 1) (List.replicate a.f.body.length 2) (List.replicate a.db.length 3)) (TmC a G) := H130
  replace H : Fin6 w0 a G _ := H
  refine ⟨_, _, _, H.own.cell 6 13 rfl rfl, ?_⟩
  refine let_as _ rfl (let_as ((_ : World).alloc (.cells (bv [1, 1]).toArray 5)) rfl ?_)
  replace H := H.call ((Bel.refl _).alloc (.cells (bv [1, 1]).toArray 5))
  refine app_by H.own H.b1 rfl (Bk.new _ 5 (bv [1, 1])).by (by omega) fun A0 c0 v0 _ _ kv0 _ _ => ?_
  replace H := H.call kv0
  refine ⟨_, _, _, H.own.cell 7 13 rfl rfl, ?_⟩
  refine let_as _ rfl (let_as ((_ : World).alloc (.cells (bv [2, 2]).toArray 5)) rfl ?_)
  replace H := H.call ((Bel.refl _).alloc (.cells (bv [2, 2]).toArray 5))
  refine app_by H.own H.b2 rfl (Bk.new _ 5 (bv [2, 2])).by (by omega) fun A1 c1 v1 _ _ kv1 _ _ => ?_
  replace H := H.call kv1
  refine ⟨_, _, _, H.own.cell 8 2 rfl rfl, ?_⟩
  refine let_as _ rfl (let_as ((_ : World).alloc (.cells (bv [3, 3]).toArray 5)) rfl ?_)
  replace H := H.call ((Bel.refl _).alloc (.cells (bv [3, 3]).toArray 5))
  refine app_by H.own H.b3 rfl (Bk.new _ 5 (bv [3, 3])).by (by omega) fun A2 c2 v2 _ _ kv2 _ _ => ?_
  replace H := H.call kv2
  refine let_as _ rfl (let_as ((_ : World).alloc (.cells (bv [4, 4]).toArray 5)) rfl ?_)
  replace H := H.call ((Bel.refl _).alloc (.cells (bv [4, 4]).toArray 5))
  refine app_by H.own H.s rfl (Bk.new _ 5 (bv [4, 4])).by (by omega) fun A3 c3 v3 _ _ kv3 _ _ => ?_
  replace H := H.call kv3
  refine let_as _ rfl (let_as ((_ : World).alloc (.cells (bv [5, 5]).toArray 5)) rfl ?_)
  replace H := H.call ((Bel.refl _).alloc (.cells (bv [5, 5]).toArray 5))
  refine app_by H.own H.r rfl (Bk.new _ 5 (bv [5, 5])).by (by omega) fun A4 c4 v4 _ _ kv4 _ _ => ?_
  replace H := H.call kv4
  refine let_as _ rfl (let_as ((_ : World).alloc (.cells (bv [6, 6]).toArray 5)) rfl ?_)
  replace H := H.call ((Bel.refl _).alloc (.cells (bv [6, 6]).toArray 5))
  refine app_by H.own H.u rfl (Bk.new _ 5 (bv [6, 6])).by (by omega) fun A5 c5 v5 _ _ kv5 _ _ => ?_
  replace H := H.call kv5
  refine ⟨3, ?_⟩
  have k := tm_l1 ok (cw := cw) (co := co) (cu := cu) (Y1 := A0) (y1n := a.f.body.length + 2) (y1c := c0) (Y2 := A1) (y2n := a.f.body.length + 2) (y2c := c1) (Y3 := A2) (y3n := a.db.length + 2) (y3c := c2) (Y4 := A3) (y4n := a.S + 2) (y4c := c3) (Y5 := A4) (y5n := a.R + 2) (y5c := c4) (Y6 := A5) (y6n := a.U + 2) (y6c := c5) H
  exact k ..
theorem tm_j3 {w : World} {cw co cu : Nat} (H : OF w0 w (TmL a G (sOut a.o a.f) a.f.bytes a.u a.f.body a.f.body a.db) (TmC a G)) :
    weftlaw7_TunnelMemory.J3 a.src G.g4 G.g5 G.g7 (some ⟨G.gs, 0, none⟩) a.S a.S G.Aw (0 + a.S) cw G.gb (some ⟨G.gr, 0, none⟩) a.R a.R G.Ao (0 + a.R) co G.gd (some ⟨G.gu, 0, none⟩) a.U a.U G.Au (0 + a.U) cu G.gf w (Yes w0) := by
  have hS := ok.S_le
  have hR := ok.R_le
  have hU := ok.U_le
  have hn := ok.n_le
  have hm := ok.m
  unfold weftlaw7_TunnelMemory.J3; intros
  rw [weftlaw7_TunnelMemory.j3_eq]
  refine ⟨_, _, _, H.own.cell 6 13 rfl rfl, ?_⟩
  refine call_of (fill_tk 3 1 H rfl rfl (by omega)) ?_
  rintro e w131 ⟨rfl, H131⟩
  refine ⟨rfl, ?_⟩
  replace H : OF w0 w131 (TmL a G (sOut a.o a.f) a.f.bytes a.u (List.replicate a.f.body.length 1) a.f.body a.db) (TmC a G) := H131
  refine ⟨_, _, _, H.own.cell 7 13 rfl rfl, ?_⟩
  refine call_of (fill_tk 4 2 H rfl rfl (by omega)) ?_
  rintro e w132 ⟨rfl, H132⟩
  refine ⟨rfl, ?_⟩
  replace H : OF w0 w132 (TmL a G (sOut a.o a.f) a.f.bytes a.u (List.replicate a.f.body.length 1) (List.replicate a.f.body.length 2) a.db) (TmC a G) := H132
  refine ⟨_, _, _, H.own.cell 8 2 rfl rfl, ?_⟩
  refine call_of (fill_tk 5 3 H rfl rfl (by omega)) ?_
  rintro e w133 ⟨rfl, H133⟩
  refine ⟨rfl, ?_⟩
  replace H : OF w0 w133 (TmL a G (sOut a.o a.f) a.f.bytes a.u (List.replicate a.f.body.length 1) (List.replicate a.f.body.length 2) (List.replicate a.db.length 3)) (TmC a G) := H133
  refine call_of (same_t (H.own.bk 0 rfl).by (H.fz _ List.mem_cons_self).1 (by show a.S ≤ _; omega)) ?_
  rintro e v0 ⟨rfl, kv0⟩
  refine ⟨_, rfl, ?_⟩
  refine ifNot (fun h => by cases h) (fun _ => ?_)
  replace H := H.call kv0
  refine call_of (same_t (H.own.bk 1 rfl).by (H.fz _ (List.mem_cons_of_mem _ List.mem_cons_self)).1 (by show a.R ≤ _; omega)) ?_
  rintro e v1 ⟨rfl, kv1⟩
  refine ⟨_, rfl, ?_⟩
  refine ifNot (fun h => by cases h) (fun _ => ?_)
  replace H := H.call kv1
  refine call_of (same_t (H.own.bk 2 rfl).by (H.fz _ (List.mem_cons_of_mem _ (List.mem_cons_of_mem _ List.mem_cons_self))).1 (by show a.U ≤ _; omega)) ?_
  rintro e v2 ⟨rfl, kv2⟩
  refine ⟨_, rfl, ?_⟩
  refine ifNot (fun h => by cases h) (fun _ => ?_)
  replace H := H.call kv2
  have k := tm_j4 ok (cw := cw) (co := co) (cu := cu) H
  exact ⟨by with_reducible apply k⟩
theorem tm_j2 {w : World} {cw co cu : Nat} (H : OF w0 w (TmL a G (sOut a.o a.f) a.f.bytes a.u a.f.body a.f.body a.db) (TmC a G)) :
    weftlaw7_TunnelMemory.J2 a.src G.g4 G.g5 G.g7 (some ⟨G.gs, 0, none⟩) a.S a.S G.Aw (0 + a.S) cw G.gb (some ⟨G.gr, 0, none⟩) a.R a.R G.Ao (0 + a.R) co G.gd (some ⟨G.gu, 0, none⟩) a.U a.U G.Au (0 + a.U) cu G.gf w (Yes w0) := by
  have hS := ok.S_le
  have hR := ok.R_le
  have hU := ok.U_le
  have hn := ok.n_le
  have hm := ok.m
  unfold weftlaw7_TunnelMemory.J2; intros
  rw [weftlaw7_TunnelMemory.j2_eq]
  refine ⟨_, _, _, H.own.cell 6 13 rfl rfl, _, _, _, H.own.cell 10 13 rfl rfl, ?_⟩
  refine call_of (same_t (H.own.bk 3 rfl).by (ok.yA.bel H.own.bel) (by omega)) ?_
  rintro e v0 ⟨rfl, kv0⟩
  refine ⟨_, rfl, ?_⟩
  refine ifNot (fun h => by cases h) (fun _ => ?_)
  replace H := H.call kv0
  refine ⟨_, _, _, H.own.cell 7 13 rfl rfl, _, _, _, H.own.cell 10 13 rfl rfl, ?_⟩
  refine call_of (same_t (H.own.bk 4 rfl).by (ok.yA.bel H.own.bel) (by omega)) ?_
  rintro e v1 ⟨rfl, kv1⟩
  refine ⟨_, rfl, ?_⟩
  refine ifNot (fun h => by cases h) (fun _ => ?_)
  replace H := H.call kv1
  refine ⟨_, _, _, H.own.cell 8 2 rfl rfl, _, _, _, H.own.cell 9 2 rfl rfl, ?_⟩
  refine call_of (same_t (H.own.bk 5 rfl).by (ok.yD.bel H.own.bel) (by omega)) ?_
  rintro e v2 ⟨rfl, kv2⟩
  refine ⟨_, rfl, ?_⟩
  refine ifNot (fun h => by cases h) (fun _ => ?_)
  replace H := H.call kv2
  have k := tm_j3 ok (cw := cw) (co := co) (cu := cu) H
  exact ⟨by with_reducible apply k⟩
end
end Go.Proofs.YtphbdmafchjjeaaS
