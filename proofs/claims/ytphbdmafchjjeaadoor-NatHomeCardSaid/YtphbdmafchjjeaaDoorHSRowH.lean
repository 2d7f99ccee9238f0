/- The package variable of this seat's rows; how tuples and backends are read; a row whose specification bears a condition of its own and lists variables.
   Conditions: none; every statement is proved here. -/
import Derived.Test.YtphbdmafchjjeaaDoorHSRowB
import Derived.Test.YtphbdmafchjjeaaDoorHSNtK
import Derived.LaidMore
import Derived.MakeChecks
import Derived.JoinedCond
import Derived.SizedLaws
namespace Go.Proofs.YtphbdmafchjjeaaDoorS
open Go Go.RowKit Go.Proofs Go.Proofs.YtphbdmafchjjeaaDoorX Go.Proofs.YtphbdmafchjjeaaDoor
open Go.ChangeShapes
set_option maxRecDepth 100000
set_option linter.unusedVariables false
set_option linter.unusedSimpArgs false
/-! ### a condition of its own, and more -/
section
variable {H : Type} {enc : TypeId × Value → H}
theorem cond_and {a : Assume} {C : Checked} {os : Os} {f : FuncId} {fn : Func} {s : OpenSpec} {k : (H : Type) → List (DataW H) → Bool} (hk : s.cond = some k) {F : Stop.Interp} {conds : List PathCond} {apart fresh handsOn again : Bool} {X : World → Prop}
    (hX : ∀ w w' : World, w.heap = w'.heap → X w → X w')
    (own : ownKnob C.prog.godebug = none) (started : os.Started) (noInit : C.prog.inits.idxOf? f = none) (hfn : C.prog.funcs[f]? = some fn)
    (witness : ∃ (w : World) (tape : Tape) (i : Input), w.os = os ∧ (w.forCall tape i).Shaped C.prog ∧ i.vars = [] ∧ Input.okWide C.prog (w.forCall tape i) .any w.heap.size f i ∧
      ((s.pre enc C.prog fn conds apart (w.forCall tape i).memory i.args ∧ X (w.forCall tape i).memory) ∧ sizedMet enc C.prog fn s apart (w.forCall tape i).memory i.args) ∧ a.holds C.prog (lone (Frame.enter C.prog f i.args .normal) [] (w.forCall tape i)))
    (contract : ∀ (W : World) (base : Nat) (args : Array Value) (ds gs : List (DataW H)) (before : List MemPlace),
      (∀ (j : Nat) t v, fn.params[j]? = some t → args[j]? = some v → Value.okWide C.prog W .any base t v) →
      DataW.Whole enc C.prog fn.params.toList s.vars apart W args.toList ds gs before →
      conds.all (PathCond.test C.prog ⟨fn.params.toList, ds, s.bare.plain.varTypes C.prog, gs⟩) = true → k H (ds ++ gs) = true →
      (DataW.weightsEach C.prog (fn.params.toList ++ s.bare.plain.varTypes C.prog) (ds ++ gs)).all (· ≤ reachBytes) = true → X W →
      a.holds C.prog (lone (Frame.enter C.prog f args .normal) [] W) →
      Calls C.prog f args W fun e W' => ∃ v, e = .returned v ∧ (s.at F).post enc C.prog fn apart fresh handsOn again W args v W') :
    ReturnsInHanded a C os f .any (fun w args => (s.pre enc C.prog fn conds apart w args ∧ X w) ∧ sizedMet enc C.prog fn s apart w args) ((s.at F).post enc C.prog fn apart fresh handsOn again) := by
  refine returnsInHanded_of_calls own started noInit witness ?_
  intro w tape i _ _ _ hok hpre hholds
  obtain ⟨_, _, _, fn', hfn', _, _, _, _, hval⟩ := hok
  have e : fn' = fn := Option.some.inj (hfn'.symm.trans hfn)
  subst e
  obtain ⟨⟨hp, hx⟩, hz⟩ := hpre
  obtain ⟨ds, gs, before, hw, hc, hkk⟩ := (OpenSpec.pre_some hk conds apart _ _).1 hp
  have hw' := DataW.Whole.of_heap (w' := w.forCall tape i) (by rfl) hw
  refine (contract (w.forCall tape i) w.heap.size i.args ds gs before hval hw' hc hkk (hz.weights hw) (hX _ _ (by rfl) hx) hholds).mono fun e W' ⟨v, he, hp⟩ => ?_
  subst he
  exact ChangeSpec.post_blind hp
theorem cond_wit {C : Checked} {os : Os} {f : FuncId} {fn : Func} {s : OpenSpec} {k : (H : Type) → List (DataW H) → Bool} (hk : s.cond = some k) {conds : List PathCond} {apart : Bool} {X : World → Prop} (w0 : World) (args : Array Value) (fuel : Nat) (hos : w0.os = os)
    (hsh : (w0.forCall (fun _ _ => 0) ⟨#[], args, []⟩).Shaped C.prog)
    (hok : Input.okWideB C.prog (w0.forCall (fun _ _ => 0) ⟨#[], args, []⟩) f ⟨#[], args, []⟩ = true)
    {x : List (DataW H) × List (DataW H) × List MemPlace} (hx : DataW.whole enc C.prog (w0.forCall (fun _ _ => 0) ⟨#[], args, []⟩).memory fn.params.toList s.vars apart args.toList fuel = some x)
    (hconds : conds.all (PathCond.test C.prog ⟨fn.params.toList, x.1, s.bare.plain.varTypes C.prog, x.2.1⟩) = true) (hkk : k H (x.1 ++ x.2.1) = true)
    (hsz : s.bare.sizedB enc C.prog fn apart (w0.forCall (fun _ _ => 0) ⟨#[], args, []⟩).memory args fuel = true)
    (hX : X (w0.forCall (fun _ _ => 0) ⟨#[], args, []⟩).memory) :
    ∃ (w : World) (tape : Tape) (i : Input), w.os = os ∧ (w.forCall tape i).Shaped C.prog ∧ i.vars = [] ∧ Input.okWide C.prog (w.forCall tape i) .any w.heap.size f i ∧
      ((s.pre enc C.prog fn conds apart (w.forCall tape i).memory i.args ∧ X (w.forCall tape i).memory) ∧ sizedMet enc C.prog fn s apart (w.forCall tape i).memory i.args) ∧ ({ modest := false } : Assume).holds C.prog (lone (Frame.enter C.prog f i.args .normal) [] (w.forCall tape i)) :=
  ⟨w0, fun _ _ => 0, ⟨#[], args, []⟩, hos, hsh, (Input.okWide_of_okWideB (base := 0) hok).1, (Input.okWide_of_okWideB hok).2,
    ⟨⟨(OpenSpec.pre_some hk conds apart _ _).2 ⟨x.1, x.2.1, x.2.2, DataW.Whole_of_whole hx, hconds, hkk⟩, hX⟩, sizedMet_of_sizedB hsz⟩, by
    simp only [Assume.holds]
    exact ⟨by simp, by simp, fun _ => Modest.zero, by simp, by simp⟩⟩
end

/-! ### the package variables -/
section
variable {P : Program} {t e : TypeId} {enc : TypeId × Value → Unit} {w : World} {base : Nat} {spare : Nat → Bool} {held : Bool} {fuel : Nat} {cs : List Value} {p : List MemPlace}
theorem arr_get {L : List (DataW Unit)} {n : Nat} {K : Value → DataW Unit → Prop} (ht : P.underlying t = some (.array n e)) (hc : P.cellsOf e = 1)
    (he : ∀ (fuel : Nat) (cs : List Value) (x : DataW Unit × List MemPlace), DataW.trod enc P w base spare held fuel e cs = some x → ∃ v, cs = [v] ∧ K v x.1)
    (h : DataW.trod enc P w base spare held fuel t cs = some (.agg L, p)) : ∀ i, i < n → ∃ v d, cs[i]? = some v ∧ L[i]? = some d ∧ K v d := by
  obtain ⟨xs, m, _, hx, hlen, hn, hel⟩ := DataW.trod_array ht h
  simp only [Prod.mk.injEq, DataW.agg.injEq] at hx
  obtain ⟨rfl, rfl⟩ := hx
  intro i hi
  have h1 := hel i hi
  rw [hc, Nat.mul_one] at h1
  obtain ⟨x, hx⟩ : ∃ x, xs[i]? = some x := ⟨_, List.getElem?_eq_getElem (by omega)⟩
  rw [hx] at h1
  obtain ⟨v, hv, hk⟩ := he _ _ _ h1
  refine ⟨v, x.1, ?_, by simp [hx], hk⟩
  have : ((cs.drop i).take 1)[0]? = some v := by rw [hv]; rfl
  simpa using this
end
def laidH : List (String × DataW Unit) := [("math/bits.deBruijn64tab", Rows.laid_math_bits_deBruijn64tab), ("weft/addr.classes", Rows.laid_weft_addr_classes), ("weft/icmp.codes", Rows.laid_weft_icmp_codes), ("weft/icmp.faults", Rows.laid_weft_icmp_faults)]
theorem dbt_get : ∀ j : Nat, j < 64 → ∀ d : DataW Unit, (match (Rows.laid_math_bits_deBruijn64tab (H := Unit)) with | .agg L => L | _ => [])[j]? = some d → d = .lit (.int .u8 (dbt.getD j 0)) := by
  have e : (match (Rows.laid_math_bits_deBruijn64tab (H := Unit)) with | .agg L => L | _ => []) = dbt.map fun x => DataW.lit (.int .u8 x) := by unfold Rows.laid_math_bits_deBruijn64tab dbt; rfl
  intro j hj d hd
  rw [e, List.getElem?_map] at hd
  have hl : dbt.length = 64 := rfl
  rw [List.getElem?_eq_getElem (by omega)] at hd
  rw [List.getD_eq_getElem?_getD, List.getElem?_eq_getElem (by omega)]
  exact (Option.some.inj hd).symm
theorem glh_tab {W : World} (h : laidMetH Tryd.prog laidH W) : Tab W := by
  rw [MakeChecks.laidMetH_plain _ _ _ (by kernel_rfl)] at h
  obtain ⟨ps, ⟨g1, t1, cs1, f1, p1, q1, hg1, ht1, hv1, hd1, _⟩, _, _⟩ := h
  obtain rfl := Option.some.inj ((show Tryd.prog.globalNamed "math/bits.deBruijn64tab" = some 0 by kernel_rfl).symm.trans hg1)
  obtain rfl := Option.some.inj ((show (Tryd.prog.globals[0]?).map (·.type) = some 135 by kernel_rfl).symm.trans ht1)
  have hd2 : DataW.trod _ Tryd.prog _ _ _ _ _ 135 cs1.toList = some (.agg (match (Rows.laid_math_bits_deBruijn64tab (H := Unit)) with | .agg L => L | _ => []), _) := hd1
  have c0 := arr_get (K := fun v d => ∃ n, v = .int .u8 n ∧ d = .lit (.int .u8 n)) Tryd.underlying135 (by kernel_rfl) (fun fuel cs x h => by
    obtain ⟨n, h1, h2, _⟩ := DataW.trod_int (k := .u8) (by kernel_rfl) h
    exact ⟨_, h1, n, rfl, by rw [h2]⟩) hd2
  intro i hi
  obtain ⟨v, d, e1, e2, n, rfl, rfl⟩ := c0 i hi
  have e3 : mulS i 1 = i := by simp [mulS]
  rw [e3, add_blk, Nat.zero_add, World.var?_cell hg1 hv1 i]
  rw [show cs1[i]? = some (.int .u8 n) by simpa using e1]
  have h3 := dbt_get i hi _ e2
  injection h3 with h3
  injection h3 with _ h3
  rw [h3]
theorem glh_of {W : World} (h : laidMetH Tryd.prog laidH W) : Gl W := by
  rw [MakeChecks.laidMetH_plain _ _ _ (by kernel_rfl)] at h
  obtain ⟨ps, ⟨g9, t9, cs9, f9, p9, q9, hg9, ht9, hv9, hd9, ⟨g1, t1, cs1, f1, p1, q1, hg1, ht1, hv1, hd1, ⟨g0, t0, cs0, f0, p0, q0, hg0, ht0, hv0, hd0, ⟨g2, t2, cs2, f2, p2, q2, hg2, ht2, hv2, hd2, _, _⟩, _⟩, _⟩, _⟩, _, _⟩ := h
  obtain rfl := Option.some.inj ((show Tryd.prog.globalNamed "weft/addr.classes" = some 3 by kernel_rfl).symm.trans hg1)
  obtain rfl := Option.some.inj ((show Tryd.prog.globalNamed "weft/icmp.codes" = some 1 by kernel_rfl).symm.trans hg0)
  obtain rfl := Option.some.inj ((show Tryd.prog.globalNamed "weft/icmp.faults" = some 2 by kernel_rfl).symm.trans hg2)
  obtain rfl := Option.some.inj ((show (Tryd.prog.globals[3]?).map (·.type) = some 158 by kernel_rfl).symm.trans ht1)
  obtain rfl := Option.some.inj ((show (Tryd.prog.globals[1]?).map (·.type) = some 148 by kernel_rfl).symm.trans ht0)
  obtain rfl := Option.some.inj ((show (Tryd.prog.globals[2]?).map (·.type) = some 150 by kernel_rfl).symm.trans ht2)
  have c0 := arr_get (K := fun v d => ∃ n, v = .int .u8 n ∧ d = .lit (.int .u8 n)) Tryd.underlying148 (by kernel_rfl) (fun fuel cs x h => by
    obtain ⟨n, h1, h2, _⟩ := DataW.trod_int (k := .u8) (by kernel_rfl) h
    exact ⟨_, h1, n, rfl, by rw [h2]⟩) hd0
  have c2 := arr_get (K := fun v d => ∃ b, v = .bool b ∧ d = .lit (.bool b)) Tryd.underlying150 (by kernel_rfl) (fun fuel cs x h => by
    obtain ⟨b, h1, h2⟩ := trod_bool (by kernel_rfl) h
    exact ⟨_, h1, b, rfl, h2⟩) hd2
  have k1 : KSl 3 24 (KAgg [(2, KAgg [(1, KInt .u32), (1, KInt .i64)]), (1, KInt .i64)]) W cs1.toList Rows.laid_weft_addr_classes :=
    opn_slice (t := 158) Tryd.underlying158 (by kernel_rfl) (by kernel_rfl) (opn_struct (tot := 3) Tryd.underlying162 (by kernel_rfl) (opnF_cons rfl (by kernel_rfl) (by decide) (opn_struct (tot := 2) Tryd.underlying160 (by kernel_rfl)
      (opnF_cons rfl (by kernel_rfl) (by decide) (opn_int (by kernel_rfl)) (opnF_cons rfl (by kernel_rfl) (by decide) (opn_int (by kernel_rfl)) opnF_nil))) (opnF_cons rfl (by kernel_rfl) (by decide) (opn_int (by kernel_rfl)) opnF_nil))) _ _ _ _ _ _ _ _ hd1 (fun n hn => by
      have : ((Rows.laid_weft_addr_classes (H := Unit)).weights Tryd.prog 158).all (· ≤ reachBytes) = true := by kernel_rfl
      simpa using List.all_eq_true.1 this n hn)
  refine ⟨fun i hi => ?_, fun i hi => ?_, ?_⟩
  · obtain ⟨v, d, e1, e2, n, rfl, rfl⟩ := c0 i hi
    rw [add_blk, Nat.zero_add, World.var?_cell hg0 hv0 i]
    rw [show cs0[i]? = some (.int .u8 n) by simpa using e1]
    have : ∀ j : Nat, j < 13 → ([DataW.lit (.int .u8 0), .lit (.int .u8 0), .lit (.int .u8 0), .lit (.int .u8 16), .lit (.int .u8 0), .lit (.int .u8 0), .lit (.int .u8 0), .lit (.int .u8 0), .lit (.int .u8 0), .lit (.int .u8 0), .lit (.int .u8 0), .lit (.int .u8 2), .lit (.int .u8 3)] : List (DataW Unit))[j]? = some (.lit (.int .u8 (codesL.getD j 0))) := fun j hj => by
      rcases (by omega : j = 0 ∨ j = 1 ∨ j = 2 ∨ j = 3 ∨ j = 4 ∨ j = 5 ∨ j = 6 ∨ j = 7 ∨ j = 8 ∨ j = 9 ∨ j = 10 ∨ j = 11 ∨ j = 12) with rfl | rfl | rfl | rfl | rfl | rfl | rfl | rfl | rfl | rfl | rfl | rfl | rfl <;> rfl
    have h3 := e2.symm.trans (this i hi)
    injection h3 with h3
    injection h3 with h3
    injection h3 with _ h3
    rw [h3]
  · obtain ⟨v, d, e1, e2, n, rfl, rfl⟩ := c2 i hi
    rw [add_blk, Nat.zero_add, World.var?_cell hg2 hv2 i]
    rw [show cs2[i]? = some (.bool n) by simpa using e1]
    have : ∀ j : Nat, j < 13 → ([DataW.lit (.bool false), .lit (.bool false), .lit (.bool false), .lit (.bool true), .lit (.bool true), .lit (.bool true), .lit (.bool false), .lit (.bool false), .lit (.bool false), .lit (.bool false), .lit (.bool false), .lit (.bool true), .lit (.bool true)] : List (DataW Unit))[j]? = some (.lit (.bool (faultT j))) := fun j hj => by
      rcases (by omega : j = 0 ∨ j = 1 ∨ j = 2 ∨ j = 3 ∨ j = 4 ∨ j = 5 ∨ j = 6 ∨ j = 7 ∨ j = 8 ∨ j = 9 ∨ j = 10 ∨ j = 11 ∨ j = 12) with rfl | rfl | rfl | rfl | rfl | rfl | rfl | rfl | rfl | rfl | rfl | rfl | rfl <;> rfl
    have h3 := e2.symm.trans (this i hi)
    injection h3 with h3
    injection h3 with h3
    injection h3 with h3
    rw [h3]
  · rcases k1 with ⟨_, hx⟩ | ⟨a, len, cap, D, rest, hcs, hd, hl, hD, _, hel⟩
    · exact absurd hx (by unfold Rows.laid_weft_addr_classes; intro h; cases h)
    · unfold Rows.laid_weft_addr_classes at hd
      injection hd with hd _
      subst hd
      have h4 : len = 4 := hD.symm
      subst h4
      refine ⟨a, cap, ?_, fun i hi => ?_⟩
      · rw [World.var?_cell hg1 hv1 0]
        have : cs1.toList[0]? = some (.slice (some a) 4 cap) := by rw [hcs]; rfl
        simpa using this
      · obtain ⟨cs', x, hx, hat, ds, rfl, _, _, _, _, rfl, e1, _, ⟨ds2, rfl, _, _, _, _, rfl, e2, _, ⟨m1, rfl, rfl, _⟩, _, _, _, _, rfl, e3, _, ⟨m2, rfl, rfl, _⟩, rfl, rfl⟩, _, _, _, _, rfl, e4, _, ⟨m3, rfl, rfl, _⟩, rfl, rfl⟩ := hel i hi
        subst e2
        subst e3
        subst e4
        subst e1
        rcases (by omega : i = 0 ∨ i = 1 ∨ i = 2 ∨ i = 3) with rfl | rfl | rfl | rfl <;> (cases hx; exact hat)
theorem glh {W : World} (h : laidMetH Tryd.prog laidH W) : Tab W ∧ Gl W := ⟨glh_tab h, glh_of h⟩
/-! ### tuples, backends -/
section
variable {H : Type}
abbrev KTp {H : Type} : Rdr H := KAgg [(1, KInt .u32), (1, KInt .u32), (1, KInt .u8), (1, KInt .u16), (1, KInt .u16)]
theorem opn_tp : Opn (H := H) Tryd.prog 32 KTp := opn_struct (tot := 5) Tryd.underlying32 (by kernel_rfl)
  (opnF_cons rfl (by kernel_rfl) (by decide) (opn_int (by kernel_rfl)) (opnF_cons rfl (by kernel_rfl) (by decide) (opn_int (by kernel_rfl)) (opnF_cons rfl (by kernel_rfl) (by decide) (opn_int (by kernel_rfl)) (opnF_cons rfl (by kernel_rfl) (by decide) (opn_int (by kernel_rfl))
  (opnF_cons rfl (by kernel_rfl) (by decide) (opn_int (by kernel_rfl)) opnF_nil)))))
theorem tp_of {w : World} {cs : List Value} {d : DataW H} (h : KTp w cs d) : ∃ t : Tp, cs = tpv t ∧ t.Fine := by
  obtain ⟨ds, rfl, h⟩ := h
  obtain ⟨_, _, _, _, rfl, rfl, _, ⟨a0, rfl, _, f0⟩, _, _, _, _, rfl, rfl, _, ⟨a1, rfl, _, f1⟩, _, _, _, _, rfl, rfl, _, ⟨a2, rfl, _, f2⟩, _, _, _, _, rfl, rfl, _, ⟨a3, rfl, _, f3⟩, _, _, _, _, rfl, rfl, _, ⟨a4, rfl, _, f4⟩, rfl, _⟩ := h
  exact ⟨⟨a0, a1, a2, a3, a4⟩, rfl, ⟨wf_u32 f0, wf_u32 f1, wf_u8 f2, wf_u16 f3, wf_u16 f4⟩⟩
theorem opn_npkt : Opn (H := H) Tryd.prog 45 KPkt := opn_pkt
theorem npkt_ofP {w : World} {cs : List Value} {d : DataW H} (h : KPkt w cs d) : ∃ (p : Pk) (A : Option Addr × Nat × Nat) (B : Option Addr × Nat × Nat) (_ : Unit), cs = pb p A.1 A.2.1 A.2.2 B.1 B.2.1 B.2.2 ∧ (p.Fine ∧ PkAt w p A.1 A.2.1 A.2.2 B.1 B.2.1 B.2.2) := by
  obtain ⟨p, A, n, c, B, m, e, h1, h2, h3, _⟩ := pkt_of h
  exact ⟨p, (A, n, c), (B, m, e), (), h1, h2, h3⟩
theorem ntup_ofP {w : World} {cs : List Value} {d : DataW H} (h : KTp w cs d) : ∃ (t : Tp) (_ : Unit) (_ : Unit) (_ : Unit), cs = tpv t ∧ t.Fine :=
  let ⟨t, h1, h2⟩ := tp_of h
  ⟨t, (), (), (), h1, h2⟩
theorem npkt_ofB {w : World} {cs : List Value} {d : DataW H} (h : KPkt w cs d) (hb : Rows.uptoBulk d ≤ 1048576) : ∃ (p : Pk) (A : Option Addr × Nat × Nat) (B : Option Addr × Nat × Nat) (_ : Unit), cs = pb p A.1 A.2.1 A.2.2 B.1 B.2.1 B.2.2 ∧ (p.Fine ∧ PkAt w p A.1 A.2.1 A.2.2 B.1 B.2.1 B.2.2) := by
  obtain ⟨p, A, n, c, B, m, e, h1, h2, h3, _⟩ := pkt_of h
  exact ⟨p, (A, n, c), (B, m, e), (), h1, h2, h3⟩
theorem opn_ntup : Opn (H := H) Tryd.prog 32 KTp := opn_tp
theorem ntup_ofB {w : World} {cs : List Value} {d : DataW H} (h : KTp w cs d) (hb : Rows.uptoBulk d ≤ 1048576) : ∃ (t : Tp) (_ : Unit) (_ : Unit) (_ : Unit), cs = tpv t ∧ t.Fine :=
  let ⟨t, h1, h2⟩ := tp_of h
  ⟨t, (), (), (), h1, h2⟩
end
end Go.Proofs.YtphbdmafchjjeaaDoorS
