/- IcmpHush: what the law answers.
   Conditions: the three package variables hold their tables; bytes are 0 to 255; lists are no longer than memory lets. -/
import Derived.Test.YtfjbpeadhaekbaaDoorSLawA
import Derived.Test.YtfjbpeadhaekbaaDoorSFF
namespace Go.Proofs.YtfjbpeadhaekbaaDoorS
open Go Go.RowKit Go.Proofs Go.Proofs.YtfjbpeadhaekbaaDoorX
set_option maxRecDepth 100000
set_option linter.unusedVariables false
set_option linter.unusedSimpArgs false

theorem hush_j2 {w w0 : World} {p : Pk} {g : Nat} {A : Option Addr} {n c : Nat} {B : Option Addr} {m d : Nat} {k : Int} {M : List (Nat × TypeId × List Value)}
    (hk : k = if quietP p = true then 61 else 0) (H : Own w w0 ((g, 29, pb (if k = 0 then faultP p 3 1 0 167838209 else pz) A n c B m d) :: M)) (hq : k ≠ 0 → PkAt w0 pz A n c B m d) :
    weftlaw6_hush.J2 g k (quietP p) w0 (Yes w) := by
  unfold weftlaw6_hush.J2; intros
  rw [weftlaw6_hush.j2_eq]
  refine ifB (fun e => ?_) (fun e => ?_)
  · rw [if_pos e] at hk
    subst hk
    rw [if_neg (by decide)] at H
    refine ifE (fun _ => ?_) (fun h => absurd rfl h)
    refine ld_pkt (H.bk 0 rfl) ?_
    have hp := hq (by decide)
    have l1 := hp.opts.len
    have l2 := hp.body.len
    refine call_of (packets_t hp (pz_at w0) (by have : pz.opts.length = 0 := rfl; omega) (by have : pz.body.length = 0 := rfl; omega)) ?_
    rintro e w3 ⟨rfl, k3⟩
    exact ⟨_, rfl, rfl, H.bel.trans k3⟩
  · rw [if_neg (by rw [e]; decide)] at hk
    subst hk
    rw [if_pos rfl] at H
    refine ifE (fun _ => ?_) (fun h => absurd rfl h)
    refine ⟨1, H.cell 0 6 rfl rfl, rfl, H.bel⟩
theorem hush_t {w : World} (hg : Gl w) {p : Pk} (h : p.Fine) {A : Option Addr} {n c : Nat} {B : Option Addr} {m d : Nat} (hp : PkAt w p A n c B m d) : Calls Tryd.prog 15 #[.agg (pb p A n c B m d).toArray] w (Yes w) := by
  refine weftlaw6_hush.run ?_
  unfold weftlaw6_hush.s
  refine own_new (l := pb p A n c B m d) (Own.refl w) fun g1 w1 H => ?_
  refine ld_pkt (H.bk 0 rfl) ?_
  refine call_of (Build_e h (hp.bel H.bel)) ?_
  rintro e w2 ⟨k2, C, i, j, rfl, _⟩
  replace H := H.call k2
  refine ⟨C, i, j, _, rfl, ?_⟩
  refine ld_pkt (H.bk 0 rfl) ?_
  refine call_of (Fault_c (hg.bel H.bel) h (hp.bel H.bel) (t := 3) (k := 1) (x := 0) (src := 167838209) (by decide) (by decide) (by decide)) ?_
  rintro e w3 ⟨k3, he⟩
  unfold RetE RetPk at he
  obtain ⟨qA, qn, qc, qB, qm, qd, rfl, hq, f1, f2⟩ := he
  have n1 := hq.opts.newer (Nat.le_refl _)
  replace H := H.call k3
  refine ⟨_, _, _, _, _, _, _, _, _, _, _, _, _, _, _, _, rfl, ?_⟩
  refine own_newC (l := pb pz none 0 0 none 0 0) H fun g3 w4 H k4 hg3 => ?_
  have n1 := hq.opts.newer hg3
  have n2 := hq.body.newer hg3
  replace hq := hq.bel k4
  refine own_putB 0 H rfl rfl (Nat.le_refl 11) fun w5 H u5 => ?_
  replace H : Own w w5 [(g3, 29, pb (if faultE p 3 1 0 167838209 = 0 then faultP p 3 1 0 167838209 else pz) qA qn qc qB qm qd), (g1, 29, pb p A n c B m d)] := H
  replace hq : PkAt w5 _ qA qn qc qB qm qd := ⟨hq.opts.but1 u5 n1, hq.body.but1 u5 n2, hq.co, hq.cb⟩
  have em : mayB 3 1 0 = true := by decide
  have ep : plainA 167838209 = true := by decide
  have ee : faultE p 3 1 0 167838209 = if p.err ≠ 0 then p.err else if quietP p = true then 61 else 0 := by
    unfold faultE
    rw [if_neg (by rw [em]; decide), if_neg (by rw [ep]; decide)]
  refine ifN (fun h1 => ?_) (fun h1 => ?_)
  · rw [if_pos h1] at ee
    rw [ee] at H hq ⊢
    rw [if_neg h1] at H hq
    refine ifE (fun _ => ?_) (fun h => absurd rfl h)
    refine ld_pkt (H.bk 0 rfl) ?_
    have l1 := hq.opts.len
    have l2 := hq.body.len
    refine call_of (packets_t hq (pz_at w5) (by have : pz.opts.length = 0 := rfl; omega) (by have : pz.body.length = 0 := rfl; omega)) ?_
    rintro e w6 ⟨rfl, k6⟩
    exact ⟨_, rfl, rfl, H.bel.trans k6⟩
  rw [if_neg (not_not_intro h1)] at ee
  have lb := hp.body.len
  have last : ∀ (y : Bool) (w6 : World), Bel w5 w6 → y = (decide (p.off > 0) || !plainA p.src || !plainA p.dst) → weftlaw6_hush.J1 g1 g3 (faultE p 3 1 0 167838209) y w6 (Yes w) := by
    intro y w6 k6 hy
    unfold weftlaw6_hush.J1; intros
    rw [weftlaw6_hush.j1_eq]
    replace H := H.call k6
    replace hq := hq.bel k6
    have step : ∀ (z : Bool) (w7 : World), Bel w6 w7 → z = quietP p → weftlaw6_hush.J2 g3 (faultE p 3 1 0 167838209) z w7 (Yes w) := by
      rintro z w7 k7 rfl
      refine hush_j2 ee (H.call k7) ?_
      intro hk
      rw [if_neg hk] at hq
      exact hq.bel k7
    refine ⟨_, H.cell 1 6 rfl rfl, ?_⟩
    refine ifE (fun h2 => ?_) (fun h2 => ?_)
    · refine ⟨B, m, d, H.cell 1 10 rfl rfl, ?_⟩
      refine ifE (fun h3 => ?_) (fun h3 => ?_)
      · refine ⟨?_⟩
        apply step true w6 (Bel.refl _)
        unfold quietP
        rw [decide_eq_true h2, decide_eq_true (by omega : p.body.length = 0)]
        simp
      · refine ⟨B, m, d, H.cell 1 10 rfl rfl, ?_⟩
        refine (hp.body.bel H.bel).rd0 (by omega) fun _ => ?_
        refine call_of (lawfault_c w6 _) ?_
        rintro e w7 ⟨rfl, k7⟩
        refine ⟨_, rfl, ?_⟩
        refine ifB (fun h4 => ?_) (fun h4 => ?_)
        · refine ⟨?_⟩
          apply step true w7 k7
          unfold quietP
          rw [decide_eq_true h2, h4]
          simp
        · refine ⟨?_⟩
          apply step y w7 k7
          unfold quietP
          rw [h4, hy, decide_eq_false (by omega : ¬ p.body.length = 0)]
          simp
    · refine ⟨?_⟩
      apply step y w6 (Bel.refl _)
      unfold quietP
      rw [hy, decide_eq_false h2]
      simp
  refine ⟨_, H.cell 1 4 rfl rfl, ?_⟩
  refine ifD (fun h2 => ?_) (fun h2 => ?_)
  · refine ⟨?_⟩
    apply last true w5 (Bel.refl _)
    rw [decide_eq_true h2]; rfl
  refine ⟨_, H.cell 1 7 rfl rfl, ?_⟩
  refine call_of (lawplain_c w5 _) ?_
  rintro e w6 ⟨rfl, k6⟩
  have H6 := H.call k6
  refine ⟨_, rfl, ?_⟩
  refine ifNot (fun h3 => ?_) (fun h3 => ?_)
  · refine ⟨?_⟩
    apply last true w6 k6
    rw [h3]; simp
  refine ⟨_, H6.cell 1 8 rfl rfl, ?_⟩
  refine call_of (lawplain_c w6 _) ?_
  rintro e w7 ⟨rfl, k7⟩
  refine ⟨_, rfl, ?_⟩
  refine ⟨?_⟩
  apply last _ w7 (Bel.trans k6 k7)
  rw [h3, decide_eq_false h2]; simp
theorem IcmpHush_t {w : World} (hg : Gl w) {p : Pk} (h : p.Fine) {A : Option Addr} {n c : Nat} {B : Option Addr} {m d : Nat} (hp : PkAt w p A n c B m d) : Calls Tryd.prog 3 #[.agg (pb p A n c B m d).toArray] w (Yes w) := by
  refine weftlaw6_IcmpHush.run ?_
  unfold weftlaw6_IcmpHush.s
  refine own_new (l := pb p A n c B m d) (Own.refl w) fun g1 w1 H => ?_
  refine call_of (small_c w1) ?_
  rintro e w2 ⟨k2, sA, sc, sB, sd, rfl, hs, _, _⟩
  replace H := H.call k2
  refine ⟨_, _, _, _, _, _, _, _, _, _, _, _, _, _, _, rfl, ?_⟩
  refine call_of (hush_t (hg.bel H.bel) small6_fine hs) ?_
  rintro e w3 ⟨rfl, k3⟩
  replace H := H.call k3
  refine ⟨_, rfl, ?_⟩
  refine ifB (fun _ => ?_) (fun h => by cases h)
  refine ld_pkt (H.bk 0 rfl) ?_
  refine call_of (hush_t (hg.bel H.bel) h (hp.bel H.bel)) ?_
  rintro e w4 ⟨rfl, k4⟩
  exact ⟨_, rfl, rfl, H.bel.trans k4⟩
end Go.Proofs.YtfjbpeadhaekbaaDoorS
