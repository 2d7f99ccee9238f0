/- Package weftlaw23: first: the document's examples.
   Conditions: the table of package bits stands in memory. -/
import Derived.Test.YtphbdmafchjjeaaDoorHSNatF
import Derived.Test.YtphbdmafchjjeaaDoorHSNatI
import Derived.Test.YtphbdmafchjjeaaDoorHSFL
namespace Go.Proofs.YtphbdmafchjjeaaDoorS
open Go Go.RowKit Go.Proofs Go.Proofs.YtphbdmafchjjeaaDoorX
set_option maxRecDepth 100000
set_option linter.unusedVariables false
set_option linter.unusedSectionVars false
set_option linter.unusedSimpArgs false

/-- yes, and all that stood as it was -/
abbrev Yes (w : World) : Ending → World → Prop := Ret (.bool true) w
theorem nsame_l (w0 : World) {A B : Option Addr} {n c d : Nat} {l : List Int} (hA : By w0 A n l) (hB : By w0 B n l) (hn : n ≤ 100000000000000) : ∀ (q i : Nat) (w : World), n - i < q → i ≤ n → Bel w0 w →
    weftlaw23_same.L1 q A n c B n d (i : Int) w (Yes w0) := by
  intro q
  induction q with
  | zero => intro i w h; omega
  | succ q ih =>
    intro i w hq hi hb
    unfold weftlaw23_same.L1; intros
    rw [weftlaw23_same.l1_eq]
    refine ifD (fun h => ?_) (fun h => ⟨rfl, hb⟩)
    refine draws (fun w' => Bel w0 w') hb.drew fun w2 e2 => ?_
    have hb2 : Bel w0 w2 := by rw [e2]; exact hb.drew
    refine hA.rdS (fun w' k => k) (by omega) (by omega) fun _ => ?_
    refine hB.rdS (fun w' k => k) (by omega) (by omega) fun _ => ?_
    refine ifN (fun h => absurd rfl h) (fun _ => ?_)
    refine let_as ((i + 1 : Nat) : Int) (by rw [w64 (by omega) (by omega)]; omega) ?_
    apply ih (i + 1) w2 (by omega) (by omega) hb2
theorem nsame_t {w : World} {A B : Option Addr} {n c m d : Nat} {l : List Int} (hA : By w A n l) (hB : By w B m l) (hn : n ≤ 100000000000000) : Calls Tryd.prog 21 #[.slice A n c, .slice B m d] w (Yes w) := by
  have e : n = m := hA.len.symm.trans hB.len
  subst e
  refine weftlaw23_same.run ?_
  unfold weftlaw23_same.s
  refine ifN (fun h => absurd rfl h) (fun _ => ⟨n + 1, ?_⟩)
  apply nsame_l w hA hB hn (n + 1) 0 w (by omega) (by omega) (Bel.refl w)
/-- The fixed datagram; where it goes. -/
def dgP : Pk := ⟨0, 3, false, false, 0, 64, 17, 168100098, 174063617, [], [15, 160, 0, 80, 0, 10, 114, 25, 104, 105]⟩
def svT : Tp := ⟨168100098, 168100354, 17, 4000, 8080⟩
theorem byt {l : List Int} (h : l.all (fun x => decide (0 ≤ x ∧ x ≤ 255)) = true) : Bytes l := fun x hx => by simpa using List.all_eq_true.1 h x hx
theorem dgP_fine : dgP.Fine := ⟨by decide, by decide, by decide, by decide, by decide, by decide, by decide, byt (by decide), byt (by decide), by decide, by decide⟩
theorem svT_fine : svT.Fine := ⟨by decide, by decide, by decide, by decide, by decide⟩
theorem datagram_c (w : World) : Calls Tryd.prog 17 #[] w (fun e w' => ∃ g, e = .returned (.agg (pb dgP none 0 0 (some ⟨g, 0, none⟩) 10 10).toArray) ∧ Own w w' [(g, 5, bv dgP.body)]) := by
  refine weftlaw23_datagram.run ?_
  unfold weftlaw23_datagram.s
  refine own_new (l := pb pz none 0 0 none 0 0) (Own.refl w) fun g1 w1 H => ?_
  refine own_new (l := bv dgP.body) H fun g3 w2 H => ?_
  refine put_pkt 1 H rfl rfl fun w3 H _ => ?_
  exact ⟨g3, rfl, H.head⟩
theorem service_c (w : World) : Calls Tryd.prog 18 #[] w (Ret (.agg (tpv svT).toArray) w) := by
  refine weftlaw23_service.run ?_
  unfold weftlaw23_service.s
  refine own_new (l := tpv tpz) (Own.refl w) fun g1 w1 H => ?_
  refine own_putB 0 H rfl rfl (Nat.le_refl 5) fun w2 H u => ?_
  refine ⟨_, _, _, _, _, ⟨rfl, (H.bk 0 rfl).at⟩, ?_⟩
  exact ⟨rfl, H.bel⟩
theorem own_lift {w w1 a : World} {L : List Blk} (k : Bel w w1) (h : Own w1 a L) : Own w a L :=
  ⟨k.trans h.bel, fun i g t l hi => ⟨(h.own i g t l hi).1, Nat.le_trans k.size (h.own i g t l hi).2⟩, h.one⟩
theorem first_turn : turnE dgP svT = 0 ∧ (turnP dgP svT).body = [15, 160, 31, 144, 0, 10, 81, 51, 104, 105] := by decide +kernel
def fsT : Tp := ⟨168100098, 174063617, 17, 4000, 80⟩
def fsB : List (Int × Int) := [(168100354, 8080), (168100355, 8080), (168100610, 8080)]
theorem first_pick : pickI fsT fsB = 2 ∧ pickE fsB = 0 := by decide +kernel
theorem hasU_nil (q : Int) (n : Nat) : hasU [] q n = false := zl_has n
theorem cntU_nil (q : Int) : cntU [] q = 0 := rfl
theorem Pts.tab {w0 w : World} {gP gm lo hi : Nat} {us : List Us} {R : List Blk} {cs : List Lst} (P : Pts w0 w gP gm lo hi us R cs) (hT : Tab w0) : Tab w := hT.bel P.of.own.bel
theorem first_j2 {w0 w : World} (hT : Tab w0) {gP gm : Nat} (P : Pts w0 w gP gm 5 6 [] [] []) : weftlaw23_first.J2 (some ⟨gP, 0, none⟩) w (Yes w0) := by
  unfold weftlaw23_first.J2; intros
  rw [weftlaw23_first.j2_eq]
  refine call_of (Take_c (P.tab hT) P (by decide) (by decide) (by decide) (pr := 17) (want := 6) (by decide) ⟨by decide, by decide⟩) ?_
  rintro e w1 ⟨us1, P1, h1, _⟩
  rcases h1 with ⟨_, h, _⟩ | ⟨n1, rfl, _, _, _, h2, hH1, hC1⟩
  · have := h 5 (by decide) (by decide)
    rw [hasU_nil] at this
    cases this
  obtain rfl : n1 = 6 := h2.want (by decide) (by decide) (hasU_nil _ _)
  refine ⟨_, _, rfl, ?_⟩
  have c1 : cntU us1 17 = 1 := by rw [hC1, if_pos rfl, cntU_nil]; rfl
  refine call_of (Take_c (P1.tab hT) P1 (by decide) (by decide) (by decide) (pr := 17) (want := 6) (by decide) (by rw [c1]; decide)) ?_
  rintro e w2 ⟨us2, P2, h1, _⟩
  rcases h1 with ⟨_, h, _⟩ | ⟨n2, rfl, h3, h4, h5, _, hH2, hC2⟩
  · have := h 5 (by decide) (by decide)
    rw [hH1, hasU_nil] at this
    exact absurd this (by decide)
  obtain rfl : n2 = 5 := by
    by_cases h6 : n2 = 6
    · rw [h6, hH1, hasU_nil] at h5
      exact absurd h5 (by decide)
    · omega
  refine ⟨_, _, rfl, ?_⟩
  have c2 : cntU us2 17 = 2 := by rw [hC2, if_pos rfl, c1]; rfl
  refine call_of (Take_c (P2.tab hT) P2 (by decide) (by decide) (by decide) (pr := 17) (want := 6) (by decide) (by rw [c2]; decide)) ?_
  rintro e w3 ⟨us3, P3, h1, _⟩
  obtain ⟨rfl, hC3⟩ : e = .returned (.tuple #[.int .u16 0, .int .i64 231]) ∧ ∀ q, cntU us3 q = cntU us2 q := by
    rcases h1 with ⟨h6, _, _, h7⟩ | ⟨n3, _, h3, h4, h5, _⟩
    · exact ⟨h6, h7⟩
    · have : n3 = 5 ∨ n3 = 6 := by omega
      rcases this with rfl | rfl
      · rw [hH2, hH1, hasU_nil] at h5
        exact absurd h5 (by decide)
      · rw [hH2, hH1, hasU_nil] at h5
        exact absurd h5 (by decide)
  refine ⟨_, _, rfl, ?_⟩
  refine ifE (fun _ => ?_) (fun h => absurd rfl h)
  refine ifE (fun _ => ?_) (fun h => absurd rfl h)
  refine ifE (fun _ => ?_) (fun h => absurd rfl h)
  refine ifE (fun _ => ?_) (fun h => absurd rfl h)
  refine ifE (fun _ => ?_) (fun h => absurd rfl h)
  refine call_of (Taken_c P3 17) ?_
  rintro e w4 ⟨rfl, k4⟩
  refine ⟨_, rfl, ?_⟩
  refine ifE (fun _ => ?_) (fun h => absurd ((hC3 17).trans c2) h)
  have P4 := P3.call k4
  refine call_of (Taken_c P4 6) ?_
  rintro e w5 ⟨rfl, k5⟩
  refine ⟨_, rfl, ?_⟩
  have c6 : cntU us3 6 = 0 := by rw [hC3, hC2, hC1, cntU_nil]; rfl
  rw [c6]
  exact ⟨rfl, (P4.call k5).of.own.bel⟩
theorem bks_of {w : World} {g : Nat} {t : TypeId} (l : List (Int × Int)) {L : List Value} (hL : L = l.flatMap fun x => [.int .u32 x.1, .int .u16 x.2]) (h : Bk w g t L) : Bks w (some ⟨g, 0, none⟩) l.length l := by
  refine ⟨rfl, fun _ => ⟨_, rfl, fun i hi => ?_⟩⟩
  rw [add_blk, Nat.zero_add]
  have key : ∀ (l : List (Int × Int)) (i : Nat), i < l.length → ∀ j v, ([.int .u32 (l.getD i (0, 0)).1, .int .u16 (l.getD i (0, 0)).2] : List Value)[j]? = some v → (l.flatMap fun x => [Value.int .u32 x.1, Value.int .u16 x.2])[i * 2 + j]? = some v := by
    intro l
    induction l with
    | nil => intro i hi; simp at hi
    | cons x l ih =>
      intro i hi j v hv
      cases i with
      | zero =>
        rw [List.flatMap_cons]
        have hj : j < 2 := (List.getElem?_eq_some_iff.1 hv).1
        rw [Nat.zero_mul, Nat.zero_add, List.getElem?_append_left hj]
        exact hv
      | succ i =>
        rw [List.flatMap_cons, List.getElem?_append_right (by simp; omega)]
        have := ih i (by simpa using hi) j v (by simpa using hv)
        rw [← this]
        congr 1
        simp
        omega
  intro j v hv
  rw [add_blk]
  refine h.cell (i * 2 + j) ?_
  rw [hL]
  exact key l i hi j v hv
theorem first_t {w0 w : World} (hT : Tab w0) (hb : Bel w0 w) : Calls Tryd.prog 7 #[] w (Yes w0) := by
  refine weftlaw23_first.run ?_
  unfold weftlaw23_first.s
  refine call_of (datagram_c w) ?_
  rintro e w1 ⟨g, rfl, H1⟩
  refine ⟨_, _, _, _, _, _, _, _, _, _, _, _, _, _, _, rfl, ?_⟩
  refine call_of (service_c w1) ?_
  rintro e w2 ⟨rfl, k2⟩
  refine ⟨_, _, _, _, _, rfl, ?_⟩
  have H2 := H1.call k2
  have pa : PkAt w2 dgP none 0 0 (some ⟨g, 0, none⟩) 10 10 := ⟨By.nil _ _, (H2.bk 0 rfl).by, Nat.le_refl _, Nat.le_refl _⟩
  refine call_of (Turn_c dgP_fine svT_fine pa) ?_
  have e0 : turnE dgP svT = 0 := first_turn.1
  have e1 : turnO dgP svT = turnP dgP svT := by unfold turnO; rw [if_pos e0]
  rw [e0, e1]
  rintro e w3 ⟨k3, A, n, c, B, m, d, rfl, hp, fA, fB⟩
  refine ⟨_, _, _, _, _, _, _, _, _, _, _, _, _, _, _, _, rfl, ?_⟩
  have hb3 : Bel w0 w3 := Bel.trans hb (Bel.trans H2.bel k3)
  refine own_mk (pb pz none 0 0 none 0 0) (Own.refl w3) rfl rfl fun g35 w4 H4 k4 _ => ?_
  replace hp := hp.bel k4
  refine ifN (fun h => absurd rfl h) (fun _ => ?_)
  refine ⟨168100354, H4.cell 0 8 rfl rfl, ?_⟩
  refine ifN (fun h => absurd rfl h) (fun _ => ?_)
  refine ⟨_, _, _, H4.cell 0 10 rfl rfl, ?_⟩
  refine own_newB (l := bv [15, 160, 31, 144, 0, 10, 81, 51, 104, 105]) H4 fun g40 w5 H5 k5 => ?_
  have yb := hp.body.bel k5
  rw [first_turn.2] at yb
  have ml := yb.len
  refine call_of (nsame_t yb (H5.bk 0 rfl).by (by rw [← ml]; decide)) ?_
  rintro e w6 ⟨rfl, k6⟩
  refine ⟨_, rfl, ?_⟩
  refine ifNot (fun h => by cases h) (fun _ => ?_)
  have hb6 : Bel w0 w6 := Bel.trans hb3 (Bel.trans H5.bel k6)
  refine ⟨?_⟩
  have j1 : weftlaw23_first.J1 w6 (Yes w0) := by
    unfold weftlaw23_first.J1; intros
    rw [weftlaw23_first.j1_eq]
    refine own_new (l := fsB.flatMap fun x => [.int .u32 x.1, .int .u16 x.2]) (Own.refl w6) fun g1 w7 H7 => ?_
    refine call_of (Pick_c (t := fsT) (bks_of fsB rfl (H7.bk 0 rfl)) (Nat.le_refl 3)) ?_
    rintro e w8' ⟨rfl, k8⟩
    refine ⟨_, _, rfl, ?_⟩
    refine call_of (New_c w8' (lo := 5) (hi := 6) (by decide) (by decide)) ?_
    rintro e w9 h9
    unfold RetNew at h9
    rw [if_neg (by decide)] at h9
    obtain ⟨gP, gm, rfl, P⟩ := h9
    refine ⟨_, _, rfl, ?_⟩
    rw [first_pick.1, first_pick.2]
    refine ifN (fun h => absurd rfl h) (fun _ => ?_)
    refine ifN (fun h => absurd rfl h) (fun _ => ?_)
    refine ifB (fun h => by cases h) (fun _ => ?_)
    refine ifN (fun h => absurd rfl h) (fun _ => ?_)
    have hb8 : Bel w0 w8' := Bel.trans hb6 (Bel.trans H7.bel k8)
    have P0 : Pts w0 w9 gP gm 5 6 [] [] [] := ⟨⟨own_lift hb8 P.of.own, fun x hx => by cases hx⟩, P.mp, Nat.le_trans hb8.size P.ge, P.bm⟩
    have k := first_j2 hT P0
    exact ⟨by with_reducible apply k⟩
  exact j1 ..
end Go.Proofs.YtphbdmafchjjeaaDoorS
