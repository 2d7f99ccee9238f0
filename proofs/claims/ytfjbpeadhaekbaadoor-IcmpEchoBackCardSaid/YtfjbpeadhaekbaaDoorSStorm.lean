/- IcmpNoStorm: what the law answers.
   Conditions: the three package variables hold their tables; bytes are 0 to 255; lists are no longer than memory lets. -/
import Derived.Test.YtfjbpeadhaekbaaDoorSLawB
import Derived.Test.YtfjbpeadhaekbaaDoorSFG
namespace Go.Proofs.YtfjbpeadhaekbaaDoorS
open Go Go.RowKit Go.Proofs Go.Proofs.YtfjbpeadhaekbaaDoorX
set_option maxRecDepth 100000
set_option linter.unusedVariables false
set_option linter.unusedSimpArgs false

/-- Zero against zero. -/
theorem packets_pz {w : World} {A : Option Addr} {n c : Nat} {B : Option Addr} {m d : Nat} (h : PkAt w pz A n c B m d) : Calls Tryd.prog 32 #[.agg (pb pz A n c B m d).toArray, .agg (pb pz none 0 0 none 0 0).toArray] w (Yes w) := by
  have h1 : 0 = n := h.opts.len
  have h2 : 0 = m := h.body.len
  exact packets_t h (pz_at w) (by omega) (by omega)
theorem storm_l (w0 : World) (hg : Gl w0) {q : Pk} (hq : Told q) {g : Nat} {A : Option Addr} {n c : Nat} {B : Option Addr} {m d : Nat} {M : List (Nat × TypeId × List Value)} : ∀ (f i : Nat) (w : World), 19 - i < f → i ≤ 19 →
    Own w0 w ((g, 29, pb q A n c B m d) :: M) → PkAt w q A n c B m d → weftlaw6_storm.L1 f g (i : Int) w (Yes w0) := by
  intro f
  induction f with
  | zero => intro i w h; omega
  | succ f ih =>
    intro i w hf hi H hp
    unfold weftlaw6_storm.L1; intros
    rw [weftlaw6_storm.l1_eq]
    refine ifD (fun h => ?_) (fun h => ?_)
    · have one : ∀ (k z : Int), (0 ≤ k ∧ k ≤ 255) → (0 ≤ z ∧ z ≤ 255) → mayB k z 0 = true → weftlaw6_storm.J2 f g (i : Int) k z w (Yes w0) := by
        intro k z hk hz hm
        unfold weftlaw6_storm.J2; intros
        rw [weftlaw6_storm.j2_eq]
        refine ld_pkt (H.bk 0 rfl) ?_
        refine call_of (Fault_c (hg.bel H.bel) hq.fine hp hk hz (x := 0) (src := 167838209) (by decide)) ?_
        rintro e w1 ⟨k1, he⟩
        have ee : faultE q k z 0 167838209 = 61 := by
          unfold faultE
          rw [if_neg (by rw [hm]; decide), if_neg (by decide), if_neg (not_not_intro hq.err), if_pos hq.quiet]
        rw [ee] at he
        obtain ⟨a1, n1, c1, a2, n2, c2, rfl, hz0, _, _⟩ := he
        replace hz0 : PkAt w1 pz a1 n1 c1 a2 n2 c2 := hz0
        refine ⟨_, _, _, _, _, _, _, _, _, _, _, _, _, _, _, _, rfl, ?_⟩
        have H1 := Own.refl w1
        refine own_new (l := pb pz none 0 0 none 0 0) H1 fun g2 w2 H1 => ?_
        refine own_put 0 H1 rfl rfl (Nat.le_refl 11) fun w3 H1 => ?_
        replace H1 : Own w1 w3 [(g2, 29, pb pz a1 n1 c1 a2 n2 c2)] := H1
        refine ifN (fun h => absurd rfl h) (fun _ => ?_)
        refine ld_pkt (H1.bk 0 rfl) ?_
        refine call_of (packets_pz (pz_any hz0)) ?_
        rintro e w4 ⟨rfl, k4⟩
        have kk := Bel.trans (Bel.trans k1 H1.bel) k4
        refine ⟨_, rfl, ?_⟩
        refine ifNot (fun h => by cases h) (fun _ => ?_)
        refine let_as ((i + 1 : Nat) : Int) (by rw [w64 (by omega) (by omega)]; omega) ?_
        apply ih (i + 1) w4 (by omega) (by omega) (H.call kk) (hp.bel kk)
      have two : ∀ (k z : Int), (if i ≥ 18 then True else (0 ≤ k ∧ k ≤ 255) ∧ (0 ≤ z ∧ z ≤ 255) ∧ mayB k z 0 = true) → weftlaw6_storm.J1 f g (i : Int) k z w (Yes w0) := by
        intro k z hkz
        unfold weftlaw6_storm.J1; intros
        rw [weftlaw6_storm.j1_eq]
        refine ifD (fun h => ?_) (fun h => ?_)
        · refine ⟨?_⟩
          apply one 12 0 (by decide) (by decide) (by decide)
        · rw [if_neg (by omega)] at hkz
          refine ⟨?_⟩
          apply one k z hkz.1 hkz.2.1 hkz.2.2
      refine let_as (i : Int) (w8 (by omega) (by omega)) ?_
      have m3 : ∀ j : Nat, j < 16 → mayB 3 (j : Int) 0 = true := by
        intro j hj
        rcases (by omega : j = 0 ∨ j = 1 ∨ j = 2 ∨ j = 3 ∨ j = 4 ∨ j = 5 ∨ j = 6 ∨ j = 7 ∨ j = 8 ∨ j = 9 ∨ j = 10 ∨ j = 11 ∨ j = 12 ∨ j = 13 ∨ j = 14 ∨ j = 15) with rfl | rfl | rfl | rfl | rfl | rfl | rfl | rfl | rfl | rfl | rfl | rfl | rfl | rfl | rfl | rfl <;> decide
      refine ifD (fun h2 => ?_) (fun h2 => ?_)
      · refine let_as ((i - 16 : Nat) : Int) (by rw [w64 (by omega) (by omega)]; omega) ?_
        refine let_as ((i - 16 : Nat) : Int) (w8 (by omega) (by omega)) ?_
        refine ⟨?_⟩
        apply two
        by_cases h3 : i ≥ 18
        · rw [if_pos h3]; trivial
        · rw [if_neg h3]
          refine ⟨by decide, by omega, ?_⟩
          rcases (by omega : i = 16 ∨ i = 17) with rfl | rfl <;> decide
      · refine ⟨?_⟩
        apply two
        rw [if_neg (by omega)]
        exact ⟨by decide, by omega, m3 i (by omega)⟩
    · refine ld_pkt (H.bk 0 rfl) ?_
      refine call_of (Echo_c (hg.bel H.bel) hq.fine hp) ?_
      rintro e w1 ⟨k1, he⟩
      rw [hq.echo] at he
      obtain ⟨a1, n1, c1, a2, n2, c2, rfl, hz0, _, _⟩ := he
      refine ⟨_, _, _, _, _, _, _, _, _, _, _, _, _, _, _, _, rfl, ?_⟩
      replace H := H.call k1
      refine own_new (l := pb pz none 0 0 none 0 0) H fun g2 w2 H => ?_
      refine own_put 0 H rfl rfl (Nat.le_refl 11) fun w3 H => ?_
      exact ⟨rfl, H.bel⟩
theorem storm_t {w : World} (hg : Gl w) {p : Pk} (h : p.Fine) {A : Option Addr} {n c : Nat} {B : Option Addr} {m d : Nat} (hp : PkAt w p A n c B m d) {t k x src : Int} (ht : 0 ≤ t ∧ t ≤ 255) (hk : 0 ≤ k ∧ k ≤ 255) (hs : 0 ≤ src ∧ src ≤ 4294967295) :
    Calls Tryd.prog 18 #[.agg (pb p A n c B m d).toArray, .int .u8 t, .int .u8 k, .int .i64 x, .int .u32 src] w (Yes w) := by
  refine weftlaw6_storm.run ?_
  unfold weftlaw6_storm.s
  refine own_new (l := pb p A n c B m d) (Own.refl w) fun g1 w1 H => ?_
  refine ld_pkt (H.bk 0 rfl) ?_
  refine call_of (Fault_c (hg.bel H.bel) h (hp.bel H.bel) ht hk hs) ?_
  rintro e w2 ⟨k2, he⟩
  unfold RetE RetPk at he
  obtain ⟨qA, qn, qc, qB, qm, qd, rfl, hq, f1, f2⟩ := he
  replace H := H.call k2
  refine ⟨_, _, _, _, _, _, _, _, _, _, _, _, _, _, _, _, rfl, ?_⟩
  refine own_newC (l := pb pz none 0 0 none 0 0) H fun g3 w4 H k4 hg3 => ?_
  have n1 := hq.opts.newer hg3
  have n2 := hq.body.newer hg3
  replace hq := hq.bel k4
  refine own_putB 0 H rfl rfl (Nat.le_refl 11) fun w5 H u5 => ?_
  replace H : Own w w5 [(g3, 29, pb (if faultE p t k x src = 0 then faultP p t k x src else pz) qA qn qc qB qm qd), (g1, 29, pb p A n c B m d)] := H
  replace hq : PkAt w5 _ qA qn qc qB qm qd := ⟨hq.opts.but1 u5 n1, hq.body.but1 u5 n2, hq.co, hq.cb⟩
  refine ifN (fun h1 => ?_) (fun h1 => ?_)
  · rw [if_neg h1] at H hq
    refine ld_pkt (H.bk 0 rfl) ?_
    refine call_of (packets_pz hq) ?_
    rintro e w6 ⟨rfl, k6⟩
    exact ⟨_, rfl, rfl, H.bel.trans k6⟩
  · rw [if_pos h1] at H hq
    refine ⟨20, ?_⟩
    apply storm_l w hg (fault_told h ht hk hs h1) 20 0 w5 (by omega) (by omega) H hq
theorem IcmpNoStorm_t {w : World} (hg : Gl w) {p : Pk} (h : p.Fine) {A : Option Addr} {n c : Nat} {B : Option Addr} {m d : Nat} (hp : PkAt w p A n c B m d) {t k x src : Int} (ht : 0 ≤ t ∧ t ≤ 255) (hk : 0 ≤ k ∧ k ≤ 255) (hx : -9223372036854775808 ≤ x ∧ x ≤ 9223372036854775807) (hs : 0 ≤ src ∧ src ≤ 4294967295) :
    Calls Tryd.prog 4 #[.agg (pb p A n c B m d).toArray, .int .u8 t, .int .u8 k, .int .i64 x, .int .u32 src] w (Yes w) := by
  refine weftlaw6_IcmpNoStorm.run ?_
  unfold weftlaw6_IcmpNoStorm.s
  refine own_new (l := pb p A n c B m d) (Own.refl w) fun g1 w1 H => ?_
  refine call_of (small_c w1) ?_
  rintro e w2 ⟨k2, sA, sc, sB, sd, rfl, hs6, _, _⟩
  replace H := H.call k2
  refine ⟨_, _, _, _, _, _, _, _, _, _, _, _, _, _, _, rfl, ?_⟩
  refine call_of (Fault_c (hg.bel H.bel) small6_fine hs6 (t := 11) (k := 1) (x := 0) (src := 167838209) (by decide) (by decide) (by decide)) ?_
  rintro e w3 ⟨k3, he⟩
  have ee : faultE small6 11 1 0 167838209 = 0 := by
    unfold faultE
    rw [if_neg (by decide), if_neg (by decide), if_neg (not_not_intro small6_err), if_neg (by decide)]
  rw [ee] at he
  obtain ⟨qA, qn, qc, qB, qm, qd, rfl, hq, f1, f2⟩ := he
  replace H := H.call k3
  refine ⟨_, _, _, _, _, _, _, _, _, _, _, _, _, _, _, _, rfl, ?_⟩
  refine own_new (l := pb pz none 0 0 none 0 0) H fun g3 w4 H => ?_
  refine own_put 0 H rfl rfl (Nat.le_refl 11) fun w5 H => ?_
  refine ifE (fun _ => ?_) (fun h => absurd rfl h)
  refine call_of (small_c w5) ?_
  rintro e w6 ⟨k6, sA2, sc2, sB2, sd2, rfl, hs7, _, _⟩
  replace H := H.call k6
  refine ⟨_, _, _, _, _, _, _, _, _, _, _, _, _, _, _, rfl, ?_⟩
  refine call_of (storm_t (hg.bel H.bel) small6_fine hs7 (t := 11) (k := 1) (x := 0) (src := 167838209) (by decide) (by decide) (by decide)) ?_
  rintro e w7 ⟨rfl, k7⟩
  replace H := H.call k7
  refine ⟨_, rfl, ?_⟩
  refine ifB (fun _ => ?_) (fun h => by cases h)
  refine ld_pkt (H.bk 1 rfl) ?_
  refine call_of (storm_t (hg.bel H.bel) h (hp.bel H.bel) ht hk hs) ?_
  rintro e w8 ⟨rfl, k8⟩
  exact ⟨_, rfl, rfl, H.bel.trans k8⟩
end Go.Proofs.YtfjbpeadhaekbaaDoorS
