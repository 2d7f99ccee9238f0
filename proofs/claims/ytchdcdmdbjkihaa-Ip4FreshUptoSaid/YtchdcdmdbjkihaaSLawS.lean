/- What is alike: same, heads and packets of a law's package say yes of it.
   Conditions: bytes are 0 to 255; lists are no longer than memory lets. -/
import Derived.Test.YtchdcdmdbjkihaaSCop
import Derived.Test.YtchdcdmdbjkihaaSFP
namespace Go.Proofs.YtchdcdmdbjkihaaS
open Go Go.RowKit Go.Proofs Go.Proofs.YtchdcdmdbjkihaaX
set_option maxRecDepth 100000
set_option linter.unusedVariables false
set_option linter.unusedSectionVars false
set_option linter.unusedSimpArgs false

/-- yes, and all that stood as it was -/
abbrev Yes (w : World) : Ending → World → Prop := Ret (.bool true) w
theorem same_l (w0 : World) {A B : Option Addr} {n c d : Nat} {l : List Int} (hA : By w0 A n l) (hB : By w0 B n l) (hn : n ≤ 100000000000000) : ∀ (q i : Nat) (w : World), n - i < q → i ≤ n → Bel w0 w →
    weftlaw3_same.L1 q A n c B n d (i : Int) w (Yes w0) := by
  intro q
  induction q with
  | zero => intro i w h; omega
  | succ q ih =>
    intro i w hq hi hb
    unfold weftlaw3_same.L1; intros
    rw [weftlaw3_same.l1_eq]
    refine ifD (fun h => ?_) (fun h => ⟨rfl, hb⟩)
    refine draws (fun w' => Bel w0 w') hb.drew fun w2 e2 => ?_
    have hb2 : Bel w0 w2 := by rw [e2]; exact hb.drew
    refine hA.rdS (fun w' k => k) (by omega) (by omega) fun _ => ?_
    refine hB.rdS (fun w' k => k) (by omega) (by omega) fun _ => ?_
    refine ifN (fun h => absurd rfl h) (fun _ => ?_)
    refine let_as ((i + 1 : Nat) : Int) (by rw [w64 (by omega) (by omega)]; omega) ?_
    apply ih (i + 1) w2 (by omega) (by omega) hb2
theorem same_t {w : World} {A B : Option Addr} {n c m d : Nat} {l : List Int} (hA : By w A n l) (hB : By w B m l) (hn : n ≤ 100000000000000) : Calls Try.prog 39 #[.slice A n c, .slice B m d] w (Yes w) := by
  have e : n = m := hA.len.symm.trans hB.len
  subst e
  refine weftlaw3_same.run ?_
  unfold weftlaw3_same.s
  refine ifN (fun h => absurd rfl h) (fun _ => ⟨n + 1, ?_⟩)
  apply same_l w hA hB hn (n + 1) 0 w (by omega) (by omega) (Bel.refl w)
theorem bbeq (b : Bool) : (!(b == b)) = false := by cases b <;> rfl
theorem heads_t {w : World} {a0 a1 : Int} {a2 a3 : Bool} {a4 a5 a6 a7 a8 : Int} {A : Option Addr} {n c : Nat} {B : Option Addr} {m d : Nat} {l : List Int} (hA : By w A n l) (hB : By w B m l) (hn : n ≤ 100000000000000) :
    Calls Try.prog 49 #[.agg (hv a0 a1 a2 a3 a4 a5 a6 a7 a8 A n c).toArray, .agg (hv a0 a1 a2 a3 a4 a5 a6 a7 a8 B m d).toArray] w (Yes w) := by
  refine weftlaw3_heads.run ?_
  unfold weftlaw3_heads.s
  refine own_new (l := hv a0 a1 a2 a3 a4 a5 a6 a7 a8 A n c) (Own.refl w) fun g1 w1 H => ?_
  refine own_new (l := hv a0 a1 a2 a3 a4 a5 a6 a7 a8 B m d) H fun g2 w2 H => ?_
  refine ⟨_, H.cell 1 0 rfl rfl, _, H.cell 0 0 rfl rfl, ifN (fun h => absurd rfl h) (fun _ => ?_)⟩
  refine ⟨_, H.cell 1 1 rfl rfl, _, H.cell 0 1 rfl rfl, ifN (fun h => absurd rfl h) (fun _ => ?_)⟩
  refine ⟨_, H.cell 1 2 rfl rfl, _, H.cell 0 2 rfl rfl, ?_⟩
  rw [bbeq]
  refine ifB (fun h => by cases h) (fun _ => ?_)
  refine ⟨_, H.cell 1 3 rfl rfl, _, H.cell 0 3 rfl rfl, ?_⟩
  rw [bbeq]
  refine ifB (fun h => by cases h) (fun _ => ?_)
  refine ⟨_, H.cell 1 4 rfl rfl, _, H.cell 0 4 rfl rfl, ifN (fun h => absurd rfl h) (fun _ => ?_)⟩
  refine ⟨?_⟩
  rw [weftlaw3_heads.j1_eq]
  refine ⟨_, H.cell 1 5 rfl rfl, _, H.cell 0 5 rfl rfl, ifE (fun _ => ?_) (fun h => absurd rfl h)⟩
  refine ⟨_, H.cell 1 6 rfl rfl, _, H.cell 0 6 rfl rfl, ifE (fun _ => ?_) (fun h => absurd rfl h)⟩
  refine ⟨_, H.cell 1 7 rfl rfl, _, H.cell 0 7 rfl rfl, ifE (fun _ => ?_) (fun h => absurd rfl h)⟩
  refine ⟨_, H.cell 1 8 rfl rfl, _, H.cell 0 8 rfl rfl, ifE (fun _ => ?_) (fun h => absurd rfl h)⟩
  refine ⟨A, n, c, H.cell 1 9 rfl rfl, B, m, d, H.cell 0 9 rfl rfl, ?_⟩
  refine call_of (same_t (hA.bel H.bel) (hB.bel H.bel) hn) ?_
  rintro e w3 ⟨rfl, k3⟩
  exact ⟨_, rfl, rfl, H.bel.trans k3⟩
theorem packets_t {w : World} {p : Pk} {A : Option Addr} {n c : Nat} {B : Option Addr} {m d : Nat} {A' : Option Addr} {n' c' : Nat} {B' : Option Addr} {m' d' : Nat} (h : PkAt w p A n c B m d) (h' : PkAt w p A' n' c' B' m' d')
    (hn : n ≤ 100000000000000) (hm : m ≤ 100000000000000) : Calls Try.prog 45 #[.agg (pb p A n c B m d).toArray, .agg (pb p A' n' c' B' m' d').toArray] w (Yes w) := by
  refine weftlaw3_packets.run ?_
  unfold weftlaw3_packets.s
  refine own_new (l := pb p A n c B m d) (Own.refl w) fun g1 w1 H => ?_
  refine own_new (l := pb p A' n' c' B' m' d') H fun g2 w2 H => ?_
  refine ld_head10 (H.bk 1 rfl) ?_
  refine ld_head10 (H.bk 0 rfl) ?_
  refine call_of (heads_t (h.opts.bel H.bel) (h'.opts.bel H.bel) hn) ?_
  rintro e w3 ⟨rfl, k3⟩
  replace H := H.call k3
  refine ⟨_, rfl, ifB (fun _ => ?_) (fun h => by cases h)⟩
  refine ⟨B, m, d, H.cell 1 10 rfl rfl, B', m', d', H.cell 0 10 rfl rfl, ?_⟩
  refine call_of (same_t (h.body.bel H.bel) (h'.body.bel H.bel) hm) ?_
  rintro e w4 ⟨rfl, k4⟩
  exact ⟨_, rfl, rfl, H.bel.trans k4⟩
end Go.Proofs.YtchdcdmdbjkihaaS
