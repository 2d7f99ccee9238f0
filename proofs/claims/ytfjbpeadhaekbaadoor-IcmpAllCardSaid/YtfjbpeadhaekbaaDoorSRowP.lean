/- The arguments and the package variables of this seat's rows.
   Conditions: none; every statement is proved here. -/
import Derived.Test.YtfjbpeadhaekbaaDoorSRow
import Derived.Test.YtfjbpeadhaekbaaDoorSIcmpB
import Derived.Test.YtfjbpeadhaekbaaDoorRows
import Derived.ProofKit
import Derived.LaidMore
import Derived.MakeChecks
namespace Go.Proofs.YtfjbpeadhaekbaaDoorS
open Go Go.RowKit Go.Proofs Go.Proofs.YtfjbpeadhaekbaaDoorX Go.Proofs.YtfjbpeadhaekbaaDoor
set_option maxRecDepth 100000
set_option linter.unusedVariables false
set_option linter.unusedSimpArgs false
section
variable {H : Type}
abbrev KBytes {H : Type} : Rdr H := KSl 1 1 (KInt .u8)
abbrev KHead {H : Type} : Rdr H := KAgg [(1, KInt .u8), (1, KInt .u16), (1, KBool), (1, KBool), (1, KInt .i64), (1, KInt .u8), (1, KInt .u8), (1, KInt .u32), (1, KInt .u32), (1, KBytes)]
abbrev KPkt {H : Type} : Rdr H := KAgg [(10, KHead), (1, KBytes)]
theorem opn_bytes : Opn (H := H) Tryd.prog 25 KBytes := opn_slice Tryd.underlying25 (by kernel_rfl) (by kernel_rfl) (opn_int (by kernel_rfl))
theorem opn_head : Opn (H := H) Tryd.prog 27 KHead := opn_struct (tot := 10) Tryd.underlying27 (by kernel_rfl)
  (opnF_cons rfl (by kernel_rfl) (by decide) (opn_int (by kernel_rfl)) (opnF_cons rfl (by kernel_rfl) (by decide) (opn_int (by kernel_rfl)) (opnF_cons rfl (by kernel_rfl) (by decide) (opn_bool (by kernel_rfl)) (opnF_cons rfl (by kernel_rfl) (by decide) (opn_bool (by kernel_rfl))
  (opnF_cons rfl (by kernel_rfl) (by decide) (opn_int (by kernel_rfl)) (opnF_cons rfl (by kernel_rfl) (by decide) (opn_int (by kernel_rfl)) (opnF_cons rfl (by kernel_rfl) (by decide) (opn_int (by kernel_rfl)) (opnF_cons rfl (by kernel_rfl) (by decide) (opn_int (by kernel_rfl))
  (opnF_cons rfl (by kernel_rfl) (by decide) (opn_int (by kernel_rfl)) (opnF_cons rfl (by kernel_rfl) (by decide) opn_bytes opnF_nil))))))))))
theorem opn_pkt : Opn (H := H) Tryd.prog 29 KPkt := opn_struct (tot := 11) Tryd.underlying29 (by kernel_rfl) (opnF_cons rfl (by kernel_rfl) (by decide) opn_head (opnF_cons rfl (by kernel_rfl) (by decide) opn_bytes opnF_nil))
theorem head_of {w : World} {cs : List Value} {d : DataW H} (h : KHead w cs d) : ∃ (p : Pk) (A : Option Addr) (n c : Nat), cs = pv p A n c ∧ By w A n p.opts ∧ n ≤ c ∧ p.body = [] ∧ p.Fine := by
  obtain ⟨ds, rfl, h⟩ := h
  obtain ⟨_, _, _, _, rfl, _, _, ⟨a0, rfl, _, f0⟩, _, _, _, _, rfl, _, _, ⟨a1, rfl, _, f1⟩, _, _, _, _, rfl, _, _, ⟨a2, rfl, _⟩, _, _, _, _, rfl, _, _, ⟨a3, rfl, _⟩, _, _, _, _, rfl, _, _, ⟨a4, rfl, _, f4⟩,
    _, _, _, _, rfl, _, _, ⟨a5, rfl, _, f5⟩, _, _, _, _, rfl, _, _, ⟨a6, rfl, _, f6⟩, _, _, _, _, rfl, _, _, ⟨a7, rfl, _, f7⟩, _, _, _, _, rfl, _, _, ⟨a8, rfl, _, f8⟩, _, _, _, _, rfl, _, _, hb, rfl, _⟩ := h
  obtain ⟨A, n, c, l, rfl, h1, h2, h3, h4⟩ := bytes_of hb
  exact ⟨⟨a0, a1, a2, a3, a4, a5, a6, a7, a8, l, []⟩, A, n, c, rfl, h1, h3, rfl, ⟨wf_u8 f0, wf_u16 f1, wf_i64 f4, wf_u8 f5, wf_u8 f6, wf_u32 f7, wf_u32 f8, h2, Bytes.nil, h4, by simp⟩⟩
theorem pkt_of {w : World} {cs : List Value} {d : DataW H} (h : KPkt w cs d) : ∃ (p : Pk) (A : Option Addr) (n c : Nat) (B : Option Addr) (m e : Nat), cs = pb p A n c B m e ∧ p.Fine ∧ PkAt w p A n c B m e := by
  obtain ⟨ds, rfl, _, _, _, _, rfl, _, _, hh, _, _, _, _, rfl, _, _, hb, rfl, _⟩ := h
  obtain ⟨p, A, n, c, rfl, h1, h2, h3, h4⟩ := head_of hh
  obtain ⟨B, m, e, l, rfl, k1, k2, k3, k4⟩ := bytes_of hb
  exact ⟨⟨p.tos, p.id, p.df, p.mf, p.off, p.ttl, p.proto, p.src, p.dst, p.opts, l⟩, A, n, c, B, m, e, rfl, ⟨h4.tos, h4.id, h4.off, h4.ttl, h4.proto, h4.src, h4.dst, h4.opts, k2, h4.lo, k4⟩, ⟨h1, k1, h2, k3⟩⟩
end

/-! ### the package variables -/
section
variable {P : Program} {t e : TypeId} {enc : TypeId × Value → Unit} {w : World} {base : Nat} {spare : Nat → Bool} {held : Bool} {fuel : Nat} {cs : List Value} {p : List MemPlace}
theorem arr_get {L : List (DataW Unit)} {n : Nat} {K : Value → DataW Unit → Prop} (ht : P.underlying t = some (.array n e)) (hc : P.cellsOf e = 1)
    (he : ∀ (fuel : Nat) (cs : List Value) (x : DataW Unit × List MemPlace), DataW.trod enc P w base spare held fuel e cs = some x → ∃ v, cs = [v] ∧ K v x.1)
    (h : DataW.trod enc P w base spare held fuel t cs = some (.agg L, p)) : ∀ i, i < n → ∃ v d, cs[i]? = some v ∧ L[i]? = some d ∧ K v d := by
  obtain ⟨xs, m, _, hx, hlen, hn, hel⟩ := DataW.trod_array ht h
  simp only [Prod.mk.injEq, DataW.agg.injEq] at hx
  obtain ⟨rfl, rfl⟩ := hx
  intro i hi
  have h1 := hel i hi
  rw [hc, Nat.mul_one] at h1
  obtain ⟨x, hx⟩ : ∃ x, xs[i]? = some x := ⟨_, List.getElem?_eq_getElem (by omega)⟩
  rw [hx] at h1
  obtain ⟨v, hv, hk⟩ := he _ _ _ h1
  refine ⟨v, x.1, ?_, by simp [hx], hk⟩
  have : ((cs.drop i).take 1)[0]? = some v := by rw [hv]; rfl
  simpa using this
end
def laid3 : List (String × DataW Unit) := [("weft/addr.classes", Rows.laid_weft_addr_classes), ("weft/icmp.codes", Rows.laid_weft_icmp_codes), ("weft/icmp.faults", Rows.laid_weft_icmp_faults)]
theorem own_ : ownKnob Tryd.prog.godebug = none := by kernel_rfl
theorem laidOut_ : laidOutB Tryd.prog = true := by kernel_rfl
theorem gl_of {W : World} (h : laidMetH Tryd.prog laid3 W) : Gl W := by
  rw [MakeChecks.laidMetH_plain _ _ _ (by kernel_rfl)] at h
  obtain ⟨ps, ⟨g1, t1, cs1, f1, p1, q1, hg1, ht1, hv1, hd1, ⟨g0, t0, cs0, f0, p0, q0, hg0, ht0, hv0, hd0, ⟨g2, t2, cs2, f2, p2, q2, hg2, ht2, hv2, hd2, _, _⟩, _⟩, _⟩, _, _⟩ := h
  obtain rfl := Option.some.inj ((show Tryd.prog.globalNamed "weft/addr.classes" = some 1 by kernel_rfl).symm.trans hg1)
  obtain rfl := Option.some.inj ((show Tryd.prog.globalNamed "weft/icmp.codes" = some 0 by kernel_rfl).symm.trans hg0)
  obtain rfl := Option.some.inj ((show Tryd.prog.globalNamed "weft/icmp.faults" = some 2 by kernel_rfl).symm.trans hg2)
  obtain rfl := Option.some.inj ((show (Tryd.prog.globals[1]?).map (·.type) = some 95 by kernel_rfl).symm.trans ht1)
  obtain rfl := Option.some.inj ((show (Tryd.prog.globals[0]?).map (·.type) = some 87 by kernel_rfl).symm.trans ht0)
  obtain rfl := Option.some.inj ((show (Tryd.prog.globals[2]?).map (·.type) = some 101 by kernel_rfl).symm.trans ht2)
  have c0 := arr_get (K := fun v d => ∃ n, v = .int .u8 n ∧ d = .lit (.int .u8 n)) Tryd.underlying87 (by kernel_rfl) (fun fuel cs x h => by
    obtain ⟨n, h1, h2, _⟩ := DataW.trod_int (k := .u8) (by kernel_rfl) h
    exact ⟨_, h1, n, rfl, by rw [h2]⟩) hd0
  have c2 := arr_get (K := fun v d => ∃ b, v = .bool b ∧ d = .lit (.bool b)) Tryd.underlying101 (by kernel_rfl) (fun fuel cs x h => by
    obtain ⟨b, h1, h2⟩ := trod_bool (by kernel_rfl) h
    exact ⟨_, h1, b, rfl, h2⟩) hd2
  have k1 : KSl 3 24 (KAgg [(2, KAgg [(1, KInt .u32), (1, KInt .i64)]), (1, KInt .i64)]) W cs1.toList Rows.laid_weft_addr_classes :=
    opn_slice (t := 95) Tryd.underlying95 (by kernel_rfl) (by kernel_rfl) (opn_struct (tot := 3) Tryd.underlying99 (by kernel_rfl) (opnF_cons rfl (by kernel_rfl) (by decide) (opn_struct (tot := 2) Tryd.underlying97 (by kernel_rfl)
      (opnF_cons rfl (by kernel_rfl) (by decide) (opn_int (by kernel_rfl)) (opnF_cons rfl (by kernel_rfl) (by decide) (opn_int (by kernel_rfl)) opnF_nil))) (opnF_cons rfl (by kernel_rfl) (by decide) (opn_int (by kernel_rfl)) opnF_nil))) _ _ _ _ _ _ _ _ hd1 (fun n hn => by
      have : ((Rows.laid_weft_addr_classes (H := Unit)).weights Tryd.prog 95).all (· ≤ reachBytes) = true := by kernel_rfl
      simpa using List.all_eq_true.1 this n hn)
  refine ⟨fun i hi => ?_, fun i hi => ?_, ?_⟩
  · obtain ⟨v, d, e1, e2, n, rfl, rfl⟩ := c0 i hi
    rw [add_blk, Nat.zero_add, World.var?_cell hg0 hv0 i]
    rw [show cs0[i]? = some (.int .u8 n) by simpa using e1]
    have : ∀ j : Nat, j < 13 → ([DataW.lit (.int .u8 0), .lit (.int .u8 0), .lit (.int .u8 0), .lit (.int .u8 16), .lit (.int .u8 0), .lit (.int .u8 0), .lit (.int .u8 0), .lit (.int .u8 0), .lit (.int .u8 0), .lit (.int .u8 0), .lit (.int .u8 0), .lit (.int .u8 2), .lit (.int .u8 3)] : List (DataW Unit))[j]? = some (.lit (.int .u8 (codesL.getD j 0))) := fun j hj => by
      rcases (by omega : j = 0 ∨ j = 1 ∨ j = 2 ∨ j = 3 ∨ j = 4 ∨ j = 5 ∨ j = 6 ∨ j = 7 ∨ j = 8 ∨ j = 9 ∨ j = 10 ∨ j = 11 ∨ j = 12) with rfl | rfl | rfl | rfl | rfl | rfl | rfl | rfl | rfl | rfl | rfl | rfl | rfl <;> rfl
    have h3 := e2.symm.trans (this i hi)
    injection h3 with h3
    injection h3 with h3
    injection h3 with _ h3
    rw [h3]
  · obtain ⟨v, d, e1, e2, n, rfl, rfl⟩ := c2 i hi
    rw [add_blk, Nat.zero_add, World.var?_cell hg2 hv2 i]
    rw [show cs2[i]? = some (.bool n) by simpa using e1]
    have : ∀ j : Nat, j < 13 → ([DataW.lit (.bool false), .lit (.bool false), .lit (.bool false), .lit (.bool true), .lit (.bool true), .lit (.bool true), .lit (.bool false), .lit (.bool false), .lit (.bool false), .lit (.bool false), .lit (.bool false), .lit (.bool true), .lit (.bool true)] : List (DataW Unit))[j]? = some (.lit (.bool (faultT j))) := fun j hj => by
      rcases (by omega : j = 0 ∨ j = 1 ∨ j = 2 ∨ j = 3 ∨ j = 4 ∨ j = 5 ∨ j = 6 ∨ j = 7 ∨ j = 8 ∨ j = 9 ∨ j = 10 ∨ j = 11 ∨ j = 12) with rfl | rfl | rfl | rfl | rfl | rfl | rfl | rfl | rfl | rfl | rfl | rfl | rfl <;> rfl
    have h3 := e2.symm.trans (this i hi)
    injection h3 with h3
    injection h3 with h3
    injection h3 with h3
    rw [h3]
  · rcases k1 with ⟨_, hx⟩ | ⟨a, len, cap, D, rest, hcs, hd, hl, hD, _, hel⟩
    · exact absurd hx (by unfold Rows.laid_weft_addr_classes; intro h; cases h)
    · unfold Rows.laid_weft_addr_classes at hd
      injection hd with hd _
      subst hd
      have h4 : len = 4 := hD.symm
      subst h4
      refine ⟨a, cap, ?_, fun i hi => ?_⟩
      · rw [World.var?_cell hg1 hv1 0]
        have : cs1.toList[0]? = some (.slice (some a) 4 cap) := by rw [hcs]; rfl
        simpa using this
      · obtain ⟨cs', x, hx, hat, ds, rfl, _, _, _, _, rfl, e1, _, ⟨ds2, rfl, _, _, _, _, rfl, e2, _, ⟨m1, rfl, rfl, _⟩, _, _, _, _, rfl, e3, _, ⟨m2, rfl, rfl, _⟩, rfl, rfl⟩, _, _, _, _, rfl, e4, _, ⟨m3, rfl, rfl, _⟩, rfl, rfl⟩ := hel i hi
        subst e2
        subst e3
        subst e4
        subst e1
        rcases (by omega : i = 0 ∨ i = 1 ∨ i = 2 ∨ i = 3) with rfl | rfl | rfl | rfl <;> (cases hx; exact hat)
end Go.Proofs.YtfjbpeadhaekbaaDoorS
