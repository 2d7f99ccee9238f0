/- Package weftlaw23: heads, packets, ends, near: that they say yes.
   Conditions: bytes are 0 to 255; lists are no longer than memory lets. -/
import Derived.Test.YtphbdmafchjjeaaDoorHSNatJ
import Derived.Test.YtphbdmafchjjeaaDoorHSFN3
namespace Go.Proofs.YtphbdmafchjjeaaDoorS
open Go Go.RowKit Go.Proofs Go.Proofs.YtphbdmafchjjeaaDoorX
set_option maxRecDepth 100000
set_option linter.unusedVariables false
set_option linter.unusedSectionVars false
set_option linter.unusedSimpArgs false

theorem nbbeq (b : Bool) : (!(b == b)) = false := by cases b <;> rfl
theorem nheads_t {w : World} {a0 a1 : Int} {a2 a3 : Bool} {a4 a5 a6 a7 a8 : Int} {A : Option Addr} {n c : Nat} {B : Option Addr} {m d : Nat} {l : List Int} (hA : By w A n l) (hB : By w B m l) (hn : n ≤ 100000000000000) :
    Calls Tryd.prog 33 #[.agg (hv a0 a1 a2 a3 a4 a5 a6 a7 a8 A n c).toArray, .agg (hv a0 a1 a2 a3 a4 a5 a6 a7 a8 B m d).toArray] w (Yes w) := by
  refine weftlaw23_heads.run ?_
  unfold weftlaw23_heads.s
  refine own_new (l := hv a0 a1 a2 a3 a4 a5 a6 a7 a8 A n c) (Own.refl w) fun g1 w1 H => ?_
  refine own_new (l := hv a0 a1 a2 a3 a4 a5 a6 a7 a8 B m d) H fun g2 w2 H => ?_
  refine ⟨_, H.cell 1 0 rfl rfl, _, H.cell 0 0 rfl rfl, ifN (fun h => absurd rfl h) (fun _ => ?_)⟩
  refine ⟨_, H.cell 1 1 rfl rfl, _, H.cell 0 1 rfl rfl, ifN (fun h => absurd rfl h) (fun _ => ?_)⟩
  refine ⟨_, H.cell 1 2 rfl rfl, _, H.cell 0 2 rfl rfl, ?_⟩
  rw [nbbeq]
  refine ifB (fun h => by cases h) (fun _ => ?_)
  refine ⟨_, H.cell 1 3 rfl rfl, _, H.cell 0 3 rfl rfl, ?_⟩
  rw [nbbeq]
  refine ifB (fun h => by cases h) (fun _ => ?_)
  refine ⟨_, H.cell 1 4 rfl rfl, _, H.cell 0 4 rfl rfl, ifN (fun h => absurd rfl h) (fun _ => ?_)⟩
  refine ⟨?_⟩
  rw [weftlaw23_heads.j1_eq]
  refine ⟨_, H.cell 1 5 rfl rfl, _, H.cell 0 5 rfl rfl, ifE (fun _ => ?_) (fun h => absurd rfl h)⟩
  refine ⟨_, H.cell 1 6 rfl rfl, _, H.cell 0 6 rfl rfl, ifE (fun _ => ?_) (fun h => absurd rfl h)⟩
  refine ⟨_, H.cell 1 7 rfl rfl, _, H.cell 0 7 rfl rfl, ifE (fun _ => ?_) (fun h => absurd rfl h)⟩
  refine ⟨_, H.cell 1 8 rfl rfl, _, H.cell 0 8 rfl rfl, ifE (fun _ => ?_) (fun h => absurd rfl h)⟩
  refine ⟨A, n, c, H.cell 1 9 rfl rfl, B, m, d, H.cell 0 9 rfl rfl, ?_⟩
  refine call_of (nsame_t (hA.bel H.bel) (hB.bel H.bel) hn) ?_
  rintro e w3 ⟨rfl, k3⟩
  exact ⟨_, rfl, rfl, H.bel.trans k3⟩
theorem npackets_t {w : World} {p : Pk} {A : Option Addr} {n c : Nat} {B : Option Addr} {m d : Nat} {A' : Option Addr} {n' c' : Nat} {B' : Option Addr} {m' d' : Nat} (h : PkAt w p A n c B m d) (h' : PkAt w p A' n' c' B' m' d')
    (hn : n ≤ 100000000000000) (hm : m ≤ 100000000000000) : Calls Tryd.prog 30 #[.agg (pb p A n c B m d).toArray, .agg (pb p A' n' c' B' m' d').toArray] w (Yes w) := by
  refine weftlaw23_packets.run ?_
  unfold weftlaw23_packets.s
  refine own_new (l := pb p A n c B m d) (Own.refl w) fun g1 w1 H => ?_
  refine own_new (l := pb p A' n' c' B' m' d') H fun g2 w2 H => ?_
  refine ld_head10 (H.bk 1 rfl) ?_
  refine ld_head10 (H.bk 0 rfl) ?_
  refine call_of (nheads_t (h.opts.bel H.bel) (h'.opts.bel H.bel) hn) ?_
  rintro e w3 ⟨rfl, k3⟩
  replace H := H.call k3
  refine ⟨_, rfl, ifB (fun _ => ?_) (fun h => by cases h)⟩
  refine ⟨B, m, d, H.cell 1 10 rfl rfl, B', m', d', H.cell 0 10 rfl rfl, ?_⟩
  refine call_of (nsame_t (h.body.bel H.bel) (h'.body.bel H.bel) hm) ?_
  rintro e w4 ⟨rfl, k4⟩
  exact ⟨_, rfl, rfl, H.bel.trans k4⟩
/-- The number at that place is 0 or 65535. -/
def EndsV (l : List Int) (i : Nat) : Prop := i + 1 < l.length ∧ l.getD i 0 = l.getD (i + 1) 0 ∧ (l.getD i 0 = 0 ∨ l.getD i 0 = 255)
theorem ends_t {w : World} {A : Option Addr} {n c : Nat} {l : List Int} (y : By w A n l) {i : Nat} (h : EndsV l i) (hn : n ≤ 100000000000000) : Calls Tryd.prog 51 #[.slice A n c, .int .i64 (i : Int)] w (Yes w) := by
  have ln := y.len
  obtain ⟨h1, h2, h3⟩ := h
  refine weftlaw23_ends.run ?_
  unfold weftlaw23_ends.s
  refine drawsR fun w2 k2 => ?_
  refine let_as ((i + 1 : Nat) : Int) (by rw [w64 (by omega) (by omega)]; omega) ?_
  refine ifD (fun _ => ?_) (fun h => absurd h (by omega))
  refine y.rdS (fun _ h => h) (by omega) (by omega) fun _ => ?_
  rw [Int.toNat_natCast]
  refine let_as ((i + 1 : Nat) : Int) (by rw [w64 (by omega) (by omega)]; omega) ?_
  refine y.rdS (fun _ h => h) (by omega) (by omega) fun _ => ?_
  rw [Int.toNat_natCast]
  refine ifE (fun _ => ?_) (fun h => absurd h2 h)
  refine y.rdS (fun _ h => h) (by omega) (by omega) fun _ => ?_
  rw [Int.toNat_natCast]
  refine ifE (fun _ => ⟨rfl, k2⟩) (fun h4 => ?_)
  refine y.rdS (fun _ h => h) (by omega) (by omega) fun _ => ?_
  rw [Int.toNat_natCast]
  have e : l.getD i 0 = 255 := by omega
  rw [e]
  exact ⟨rfl, k2⟩
/-- Two bodies are alike but for a sum at that place. -/
def NearB (pr : Int) (l l' : List Int) : Prop := l'.length = l.length ∧ ∀ i, i < l.length → l.getD i 0 = l'.getD i 0 ∨ ∃ a : Nat, ((pr = 1 ∧ a = 2) ∨ (pr = 6 ∧ a = 16)) ∧ (i = a ∨ i = a + 1) ∧ EndsV l a ∧ EndsV l' a
def natAt (pr : Int) : Int := if pr = 1 then 2 else if pr = 6 then 16 else -1
section
variable {w0 : World} {p : Pk} {l' : List Int} {A : Option Addr} {n c : Nat} {B : Option Addr} {m d : Nat} {A' : Option Addr} {n' c' : Nat} {B' : Option Addr} {m' d' : Nat} (y : By w0 B m p.body) (y' : By w0 B' m' l') (hN : NearB p.proto p.body l') (hm : m ≤ 100000000000000) {g1 g3 : Nat} {t1 t3 : TypeId}
include y y' hN hm
theorem near_l : ∀ (q i : Nat) (w : World), m - i < q → i ≤ m → Own w0 w [(g3, t3, pb { p with body := l' } A' n' c' B' m' d'), (g1, t1, pb p A n c B m d)] → weftlaw23_near.L1 q g1 g3 (natAt p.proto) (i : Int) w (Yes w0) := by
  have ln := y.len
  have ln' := y'.len
  have lnn := hN.1
  intro q
  induction q with
  | zero => intro i w hq; omega
  | succ q ih =>
    intro i w hq hi H
    unfold weftlaw23_near.L1; intros
    rw [weftlaw23_near.l1_eq]
    refine ⟨B, m, d, H.cell 1 10 rfl rfl, ?_⟩
    refine ifD (fun h1 => ?_) (fun h1 => ⟨rfl, H.bel⟩)
    have hi2 : i < m := by omega
    refine draws (fun w' => Own w0 w' [(g3, t3, pb { p with body := l' } A' n' c' B' m' d'), (g1, t1, pb p A n c B m d)]) H.drew fun w2 e2 => ?_
    replace H := H.drew
    rw [← e2] at H
    refine ⟨B, m, d, fun w' h => h.cell 1 10 rfl rfl, ?_⟩
    refine y.rdS (fun _ h => h.bel) (by omega) (by omega) fun _ => ?_
    rw [Int.toNat_natCast]
    refine ⟨B', m', d', fun w' h => h.cell 0 10 rfl rfl, ?_⟩
    refine y'.rdS (fun _ h => h.bel) (by omega) (by omega) fun _ => ?_
    rw [Int.toNat_natCast]
    refine ifE (fun h2 => ?_) (fun h2 => ?_)
    · refine let_as ((i + 1 : Nat) : Int) (by rw [w64 (by omega) (by omega)]; omega) ?_
      exact ih (i + 1) w2 (by omega) (by omega) H ..
    rcases hN.2 i (by omega) with h3 | ⟨a, ha, hia, he, he'⟩
    · exact absurd h3 h2
    have ea : natAt p.proto = (a : Int) := by
      unfold natAt
      rcases ha with ⟨h4, rfl⟩ | ⟨h4, rfl⟩
      · rw [if_pos h4]; rfl
      · rw [if_neg (by omega), if_pos h4]; rfl
    rw [ea] at ih ⊢
    have fin : ∀ {w4 : World}, Bel w2 w4 → weftlaw23_near.L1 q g1 g3 (a : Int) ((i + 1 : Nat) : Int) w4 (Yes w0) := fun k => ih (i + 1) _ (by omega) (by omega) (H.call k)
    have ha16 : a ≤ 16 := by omega
    refine ifF (by omega) ?_
    refine ifN (fun h4 => ?_) (fun h4 => ?_)
    · refine let_as ((a + 1 : Nat) : Int) (by rw [w64 (by omega) (by omega)]; omega) ?_
      refine ifN (fun h5 => absurd (show (i : Int) = ((a + 1 : Nat) : Int) by omega) h5) (fun h5 => ?_)
      refine ⟨B, m, d, H.cell 1 10 rfl rfl, ?_⟩
      refine call_of (ends_t (y.bel H.bel) he hm) ?_
      rintro e w3 ⟨rfl, k3⟩
      refine ⟨_, rfl, ?_⟩
      refine ifNot (fun h => by cases h) (fun _ => ?_)
      refine ⟨B', m', d', (H.call k3).cell 0 10 rfl rfl, ?_⟩
      refine call_of (ends_t (y'.bel (H.call k3).bel) he' (by omega)) ?_
      rintro e w4 ⟨rfl, k4⟩
      refine ⟨_, rfl, ?_⟩
      refine ifNot (fun h => by cases h) (fun _ => ?_)
      refine let_as ((i + 1 : Nat) : Int) (by rw [w64 (by omega) (by omega)]; omega) ?_
      exact fin (Bel.trans k3 k4) ..
    · refine ⟨B, m, d, H.cell 1 10 rfl rfl, ?_⟩
      refine call_of (ends_t (y.bel H.bel) he hm) ?_
      rintro e w3 ⟨rfl, k3⟩
      refine ⟨_, rfl, ?_⟩
      refine ifNot (fun h => by cases h) (fun _ => ?_)
      refine ⟨B', m', d', (H.call k3).cell 0 10 rfl rfl, ?_⟩
      refine call_of (ends_t (y'.bel (H.call k3).bel) he' (by omega)) ?_
      rintro e w4 ⟨rfl, k4⟩
      refine ⟨_, rfl, ?_⟩
      refine ifNot (fun h => by cases h) (fun _ => ?_)
      refine let_as ((i + 1 : Nat) : Int) (by rw [w64 (by omega) (by omega)]; omega) ?_
      exact fin (Bel.trans k3 k4) ..
end
theorem near_t {w : World} {p : Pk} {l' : List Int} {A : Option Addr} {n c : Nat} {B : Option Addr} {m d : Nat} {A' : Option Addr} {n' c' : Nat} {B' : Option Addr} {m' d' : Nat} (h : PkAt w p A n c B m d) (h' : PkAt w { p with body := l' } A' n' c' B' m' d') (hN : NearB p.proto p.body l')
    (hn : n ≤ 100000000000000) (hm : m ≤ 100000000000000) : Calls Tryd.prog 31 #[.agg (pb p A n c B m d).toArray, .agg (pb { p with body := l' } A' n' c' B' m' d').toArray] w (Yes w) := by
  have ln := h.body.len
  have ln' : l'.length = m' := h'.body.len
  have lnn := hN.1
  refine weftlaw23_near.run ?_
  unfold weftlaw23_near.s
  refine own_new (l := pb p A n c B m d) (Own.refl w) fun g1 w1 H => ?_
  refine own_new (l := pb { p with body := l' } A' n' c' B' m' d') H fun g2 w2 H => ?_
  refine ld_head10 (H.bk 1 rfl) ?_
  refine ld_head10 (H.bk 0 rfl) ?_
  refine call_of (nheads_t (h.opts.bel H.bel) (h'.opts.bel H.bel) hn) ?_
  rintro e w3 ⟨rfl, k3⟩
  replace H := H.call k3
  refine ⟨_, rfl, ?_⟩
  refine ifNot (fun h => by cases h) (fun _ => ?_)
  refine ⟨B, m, d, H.cell 1 10 rfl rfl, B', m', d', H.cell 0 10 rfl rfl, ?_⟩
  refine ifN (fun h => absurd (show (m : Int) = (m' : Int) by omega) h) (fun _ => ?_)
  have j3 : weftlaw23_near.J3 g1 g2 (natAt p.proto) w3 (Yes w) := by
    unfold weftlaw23_near.J3; intros
    rw [weftlaw23_near.j3_eq]
    refine ⟨m + 1, ?_⟩
    have k : weftlaw23_near.L1 (m + 1) g1 g2 (natAt p.proto) 0 w3 (Yes w) := near_l (w0 := w) (p := p) (l' := l') h.body h'.body hN hm (m + 1) 0 w3 (by omega) (by omega) H
    exact k ..
  have j2 : ∀ z : Int, (p.proto ≠ 1 → z = natAt p.proto) → weftlaw23_near.J2 g1 g2 z w3 (Yes w) := fun z hz => by
    unfold weftlaw23_near.J2; intros
    rw [weftlaw23_near.j2_eq]
    refine ⟨p.proto, H.cell 1 6 rfl rfl, ?_⟩
    refine ifE (fun h1 => ?_) (fun h1 => ?_)
    · have e : natAt p.proto = 2 := by unfold natAt; rw [if_pos h1]
      rw [e] at j3
      exact ⟨by with_reducible apply j3⟩
    · rw [← hz h1] at j3
      exact ⟨by with_reducible apply j3⟩
  refine ⟨?_⟩
  have j1 : weftlaw23_near.J1 g1 g2 w3 (Yes w) := by
    unfold weftlaw23_near.J1; intros
    rw [weftlaw23_near.j1_eq]
    refine ⟨p.proto, H.cell 1 6 rfl rfl, ?_⟩
    refine ifE (fun h1 => ?_) (fun h1 => ?_)
    · have k := j2 16 (fun h2 => by unfold natAt; rw [if_neg h2, if_pos h1])
      exact ⟨by with_reducible apply k⟩
    · have k := j2 (-1) (fun h2 => by unfold natAt; rw [if_neg h2, if_neg h1])
      exact ⟨by with_reducible apply k⟩
  exact j1 ..
end Go.Proofs.YtphbdmafchjjeaaDoorS
