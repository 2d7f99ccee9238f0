/- Package weftlaw7: TunnelScript.
   Conditions: the script is as a row's argument is. -/
import Derived.Test.YtleelkkddjldnaaSTScrF
namespace Go.Proofs.YtleelkkddjldnaaS
open Go Go.RowKit Go.Proofs Go.Proofs.YtleelkkddjldnaaX
set_option maxRecDepth 100000
set_option linter.unusedVariables false
set_option linter.unusedSectionVars false
set_option linter.unusedSimpArgs false

/-- A step as a row's argument holds it. -/
structure OpAt (w : World) (l : List Value) : Prop where
  op : ∃ (kind : Int) (o : Ot) (f : Fr) (A : Option Addr) (n c : Nat) (x : Item) (B : Option Addr) (m d : Nat) (E : Option Addr) (p q : Nat) (D : Option Addr) (r s : Nat) (at_ : Int) (raw : List Int),
    l = opv kind o f A n c x B m d E p q D r s at_ ∧ o.Fine ∧ f.Fine ∧ By w A n f.body ∧ n ≤ c ∧ n ≤ 1048576 ∧ x.Fine ∧ ItAt w x B m d E p q ∧ By w D r raw ∧ Bytes raw ∧ r ≤ s ∧ r ≤ 1048576 ∧ (-9223372036854775808 ≤ at_ ∧ at_ ≤ 9223372036854775807)
def Ops (w : World) (A : Option Addr) (n : Nat) : Prop := 0 < n → ∃ a, A = some a ∧ ∀ i, i < n → ∃ l, At w (a.add (i * 30)) l ∧ OpAt w l
theorem Script_l2 {w0 : World} {g : Nat} {R : List Blk} {fz : List Lst} {Al : Option Addr} {nl cl : Nat} {As : Option Addr} {ns cs : Nat} {f : Fr} {Af : Option Addr} {nf cf : Nat} {o : Ot} {oL oW : Option Blk} {AL : Option Addr} {n cL : Nat} {AW : Option Addr} {cW : Nat} {vL vW : List Value} {total : Int}
    (sL : SV oL AL n cL vL) (sW : SV oW AW n cW vW) (kp : Kp vL vW n fz total) : ∀ (q i : Nat) (w : World), n - i < q → i ≤ n →
    OF w0 w ((g, 73, stc Al nl cl As ns cs f Af nf cf o AL n cL AW n cW total) :: (oL.toList ++ (oW.toList ++ R))) fz → weftlaw7_TunnelScript.L2 q g (i : Int) w (Yes w0) := by
  intro q
  have n1 := kp.lo
  have n2 := kp.hi
  induction q with
  | zero => intro i w h; omega
  | succ q ih =>
    intro i w hq hi H
    unfold weftlaw7_TunnelScript.L2; intros
    rw [weftlaw7_TunnelScript.l2_eq]
    refine ⟨_, rfl, AL, n, cL, by rw [add_blk]; exact H.own.cell 0 22 rfl rfl, ?_⟩
    refine ifD (fun h1 => ?_) (fun h1 => ⟨rfl, H.own.bel⟩)
    have hi2 : i < n := by omega
    have hnL := sL.1
    have hnW := sW.1
    rcases sL.2 with ⟨_, _, _, rfl⟩ | ⟨b, pad, rfl, rfl, rfl⟩
    · simp at hnL; omega
    rcases sW.2 with ⟨_, _, _, rfl⟩ | ⟨b', pad', rfl, rfl, rfl⟩
    · simp at hnW; omega
    obtain ⟨B, m, d, B', d', l, e1, e2, e3, e4, e5⟩ := kp.eq i hi2
    refine draws (fun w' => OF w0 w' _ fz) (H.call (Bel.refl w).drew) fun w2 e2' => ?_
    replace H := H.call (Bel.refl w).drew
    rw [← e2'] at H
    refine ⟨_, rfl, _, _, _, fun w' h => by rw [add_blk]; exact h.own.cell 0 22 rfl rfl, _, rfl, ⟨by omega, by omega⟩, ?_⟩
    rw [Int.toNat_natCast, add_blk, Nat.zero_add]
    refine ⟨B, m, d, fun w' h => h.own.cell 1 i rfl (by rw [List.getElem?_append_left (by omega)]; exact e1), ?_⟩
    refine ⟨_, rfl, _, _, _, fun w' h => by rw [add_blk]; exact h.own.cell 0 23 rfl rfl, _, rfl, ⟨by omega, by omega⟩, ?_⟩
    rw [add_blk, Nat.zero_add]
    refine ⟨B', m, d', fun w' h => h.own.cell 2 i rfl (by rw [List.getElem?_append_left (by omega)]; exact e2), ?_⟩
    refine call_of (same_t (H.fz _ e3).1 (H.fz _ e4).1 (by omega)) ?_
    rintro e w3 ⟨rfl, k3⟩
    refine ⟨_, rfl, H.call k3, ifNot (fun h => by cases h) (fun _ => ?_)⟩
    refine let_as ((i + 1 : Nat) : Int) (by rw [w64 (by omega) (by omega)]; omega) ?_
    have kk := ih (i + 1) w3 (by omega) (by omega) (H.call k3)
    with_reducible apply kk
theorem Script_l1 {w0 : World} {g : Nat} {A : Option Addr} {n c : Nat} (hs : Ops w0 A n) (hn : n ≤ 1000000000000000) : ∀ (q i : Nat) (w : World), n - i < q → i ≤ n → Iv w0 w g [] → weftlaw7_TunnelScript.L1 q A n c g (i : Int) w (Yes w0) := by
  intro q
  induction q with
  | zero => intro i w h; omega
  | succ q ih =>
    intro i w hq hi2 I
    unfold weftlaw7_TunnelScript.L1; intros
    rw [weftlaw7_TunnelScript.l1_eq]
    refine ifD (fun h1 => ?_) (fun h1 => ?_)
    · obtain ⟨a, ea, hc⟩ := hs (by omega)
      obtain ⟨l, hat, ⟨kind, o, f, A1, n1, c1, x, B, m, d, E, p, q', D, r, s, at_, raw, rfl, v1, v2, v3, v4, v5, v6, v7, v8, v9, v10, v11, v12⟩⟩ := hc i (by omega)
      refine ⟨a, ea, ⟨by omega, by omega⟩, ?_⟩
      rw [Int.toNat_natCast]
      refine ⟨_, _, _, _, _, _, _, _, _, _, _, _, _, _, _, _, _, _, _, _, _, _, _, _, _, _, _, _, _, _, _, _, _, _, _, _, _, _, ⟨rfl, hat.bel I.bel⟩, ?_⟩
      refine call_of (plays_t I v1 v2 v3 v4 v5 v6 v7 v8 v9 v10 v11 v12) ?_
      rintro e w2 ⟨rfl, I⟩
      refine ⟨_, rfl, ifNot (fun h => by cases h) (fun _ => ?_)⟩
      refine let_as ((i + 1 : Nat) : Int) (by rw [w64 (by omega) (by omega)]; omega) ?_
      have kk := ih (i + 1) w2 (by omega) (by omega) I
      with_reducible apply kk
    · obtain ⟨ol, og, Al, nl, cl, last, As, ns, cs, sealed, f, Af, nf, cf, o, fz, G, t⟩ := I
      obtain ⟨oL, oW, AL, k, cL, AW, cW, vL, vW, total, H, sL, sW, kp⟩ := G
      refine ⟨k + 1, ?_⟩
      have kk : weftlaw7_TunnelScript.L2 (k + 1) g 0 w (Yes w0) := Script_l2 sL sW kp (k + 1) 0 w (by omega) (by omega) H
      with_reducible apply kk
theorem TunnelScript_t {w : World} {A : Option Addr} {n c : Nat} (h : Ops w A n ∧ n ≤ 1000000000000) : Calls Try.prog 12 #[.slice A n c] w (Yes w) := by
  obtain ⟨hs, hn⟩ := h
  refine weftlaw7_TunnelScript.run ?_
  unfold weftlaw7_TunnelScript.s
  refine call_of (begun_t w) ?_
  rintro e w1 ⟨rfl, k1⟩
  refine ⟨_, rfl, ifNot (fun h => by cases h) (fun _ => ?_)⟩
  refine own_new (l := stc none 0 0 none 0 0 fz none 0 0 oz none 0 0 none 0 0 0) ((Own.refl w).call k1) fun g w2 H => ?_
  refine ⟨n + 1, ?_⟩
  have I : Iv w w2 g [] := ⟨none, none, none, 0, 0, [], none, 0, 0, [], fz, none, 0, 0, oz, [(none, 0, [])], ⟨none, none, none, 0, 0, none, 0, [], [], 0, ⟨H, fun x hx => by
    rcases List.mem_cons.1 hx with rfl | hx
    · exact ⟨By.nil _ _, fun h => absurd h (Nat.lt_irrefl 0)⟩
    · cases hx⟩, SV.none, SV.none, ⟨fun i hi => absurd hi (Nat.not_lt_zero i), by decide, by decide⟩⟩, SL.none, SL.none, Bytes.nil, Nat.zero_le _, fz_fine, ⟨by decide, by decide, by decide, by decide, by decide, by decide⟩, Nat.zero_le _, List.mem_cons_self, Bytes.nil, Nat.zero_le _⟩
  have k : weftlaw7_TunnelScript.L1 (n + 1) A n c g 0 w2 (Yes w) := Script_l1 hs (by omega) (n + 1) 0 w2 (by omega) (by omega) I
  with_reducible apply k
end Go.Proofs.YtleelkkddjldnaaS
