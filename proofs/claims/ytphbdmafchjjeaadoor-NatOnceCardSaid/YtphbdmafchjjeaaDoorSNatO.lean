/- Package weftlaw23: NatMoves is true.
   Conditions: the table of package bits stands in memory; the arguments are as a row's arguments are. -/
import Derived.Test.YtphbdmafchjjeaaDoorSNatN
namespace Go.Proofs.YtphbdmafchjjeaaDoorS
open Go Go.RowKit Go.Proofs Go.Proofs.YtphbdmafchjjeaaDoorX
set_option maxRecDepth 100000
set_option linter.unusedVariables false
set_option linter.unusedSectionVars false
set_option linter.unusedSimpArgs false

/-- A[:n] holds tuples. -/
def Tps (w : World) (A : Option Addr) (n : Nat) : Prop := 0 < n → ∃ a, A = some a ∧ ∀ i, i < n → ∃ t : Tp, At w (a.add (i * 5)) (tpv t) ∧ t.Fine
section
variable {w0 : World} {A B : Option Addr} {n c m d : Nat} {l : List (Int × Int)} {x : Int × Int} {out : Int} {g7 : Nat}
theorem NatMoves_l (hA : Tps w0 A n) (hn : n ≤ 9000000000000) (hB : Bks w0 B m l) (hf : FineB (l ++ [x])) (hm : m ≤ d) (ho : -9223372036854775808 ≤ out ∧ out ≤ 9223372036854775807) : ∀ (q i : Nat) (w : World), n - i < q → i ≤ n → Own w0 w [(g7, 28, bkd x)] →
    weftlaw23_NatMoves.L1 q A n c B m d out g7 (i : Int) w (Yes w0) := by
  intro q
  induction q with
  | zero => intro i w hq; omega
  | succ q ih =>
    intro i w hq hi H
    unfold weftlaw23_NatMoves.L1; intros
    rw [weftlaw23_NatMoves.l1_eq]
    refine ifD (fun h1 => ?_) (fun h1 => ⟨rfl, H.bel⟩)
    obtain ⟨a, ea, ha⟩ := hA (by omega)
    obtain ⟨t, hat, ht⟩ := ha i (by omega)
    have j1 : ∀ {w1 : World}, Own w0 w1 [(g7, 28, bkd x)] → (m ≤ 256 → Unt t (l ++ [x])) → weftlaw23_NatMoves.J1 q A n c B m d out g7 (i : Int) w1 (Yes w0) := fun {w1} H1 hu => by
      unfold weftlaw23_NatMoves.J1; intros
      rw [weftlaw23_NatMoves.j1_eq]
      refine draws (fun w' => Own w0 w' [(g7, 28, bkd x)]) H1.drew fun w2 e2 => ?_
      have H2 : Own w0 w2 [(g7, 28, bkd x)] := by rw [e2]; exact H1.drew
      refine ⟨a, ea, ⟨by omega, by omega⟩, _, _, _, _, _, ⟨rfl, fun w' h => hat.bel h.bel⟩, ?_⟩
      refine ⟨_, _, ⟨rfl, fun w' h => (h.bk 0 rfl).at⟩, ?_⟩
      refine call_of (moves_c (t := t) (x := x) (hB.bel H2.bel) hm hu ho) ?_
      rintro e w3 ⟨rfl, k3⟩
      refine ⟨_, rfl, H2.call k3, ?_⟩
      refine ifNot (fun h => by cases h) (fun _ => ?_)
      refine let_as ((i + 1 : Nat) : Int) (by rw [w64 (by omega) (by omega)]; omega) ?_
      exact ih (i + 1) w3 (by omega) (by omega) (H2.call k3) ..
    refine draws (fun w' => Own w0 w' [(g7, 28, bkd x)]) H.drew fun w2 e2 => ?_
    have H2 : Own w0 w2 [(g7, 28, bkd x)] := by rw [e2]; exact H.drew
    refine ifD (fun h2 => ?_) (fun h2 => ?_)
    · refine ⟨a, ea, ⟨by omega, by omega⟩, _, _, _, _, _, ⟨rfl, fun w' h => hat.bel h.bel⟩, ?_⟩
      refine ⟨_, _, ⟨rfl, fun w' h => (h.bk 0 rfl).at⟩, ?_⟩
      refine call_of (tied_c (t := t) ht (hB.bel H2.bel) (by omega) hf) ?_
      rintro e w3 ⟨k3, b, rfl, hu⟩
      refine ⟨_, rfl, H2.call k3, ?_⟩
      refine ifB (fun _ => ?_) (fun hb => ?_)
      · refine let_as ((i + 1 : Nat) : Int) (by rw [w64 (by omega) (by omega)]; omega) ?_
        exact ih (i + 1) w3 (by omega) (by omega) (H2.call k3) ..
      · have k := j1 (H2.call k3) (fun _ => hu hb)
        exact ⟨by with_reducible apply k⟩
    · have k := j1 H2 (fun h => by omega)
      exact ⟨by with_reducible apply k⟩
end
theorem NatMoves_t {w : World} (hT : Tab w) {A : Option Addr} {n c : Nat} (hA : Tps w A n ∧ n ≤ 9000000000000) {B : Option Addr} {m d : Nat} (hB : (∃ l, Bks w B m l ∧ FineB l) ∧ m ≤ d) {out : Int} (ho : -9223372036854775808 ≤ out ∧ out ≤ 9223372036854775807) {x : Int × Int} (hx : (0 ≤ x.1 ∧ x.1 ≤ 4294967295) ∧ (0 ≤ x.2 ∧ x.2 ≤ 65535)) :
    Calls Tryd.prog 3 #[.slice A n c, .slice B m d, .int .i64 out, .agg (bkd x).toArray] w (Yes w) := by
  obtain ⟨⟨l, hl, hf⟩, hm⟩ := hB
  refine weftlaw23_NatMoves.run ?_
  unfold weftlaw23_NatMoves.s
  refine own_new (l := bkd x) (Own.refl w) fun g1 w1 H => ?_
  refine call_of (first_t (w0 := w1) (hT.bel H.bel) (Bel.refl w1)) ?_
  rintro e w2 ⟨rfl, k2⟩
  refine ⟨_, rfl, ?_⟩
  refine ifNot (fun h => by cases h) (fun _ => ?_)
  have k : weftlaw23_NatMoves.L1 (n + 1) A n c B m d out g1 0 w2 (Yes w) := NatMoves_l (w0 := w) (x := x) (B := B) (m := m) (d := d) (l := l) (c := c) (out := out) (g7 := g1) hA.1 hA.2 hl (fun y hy => (List.mem_append.1 hy).elim (hf y) (fun h => by rw [List.mem_singleton.1 h]; exact hx)) hm ho (n + 1) 0 w2 (by omega) (by omega) (H.call k2)
  exact ⟨n + 1, by with_reducible apply k⟩
end Go.Proofs.YtphbdmafchjjeaaDoorS
