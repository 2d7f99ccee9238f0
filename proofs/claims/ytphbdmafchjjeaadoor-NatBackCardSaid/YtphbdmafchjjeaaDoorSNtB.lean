/- Package weftlaw23: turns, NatBack.
   Conditions: a packet's and a tuple's fields are of their kinds; the table of package bits stands in memory. -/
import Derived.Test.YtphbdmafchjjeaaDoorSNatY
namespace Go.Proofs.YtphbdmafchjjeaaDoorS
open Go Go.RowKit Go.Proofs Go.Proofs.YtphbdmafchjjeaaDoorX
set_option maxRecDepth 100000
set_option linter.unusedVariables false
set_option linter.unusedSectionVars false
set_option linter.unusedSimpArgs false

theorem Pk.blen {p : Pk} (h : p.err = 0) : p.opts.length ≤ 65535 ∧ p.body.length ≤ 65535 := by
  have := Pk.err_zero h
  omega
section
variable {w0 : World} {p : Pk} {u : Tp} {A : Option Addr} {n c : Nat} {B : Option Addr} {m d : Nat} (hp : PkAt w0 p A n c B m d) {A' : Option Addr} {n' c' : Nat} {B' : Option Addr} {m' d' : Nat} {g1 g3 g5 g7 : Nat} (t : Tn p u)
include hp t
theorem turns_j4 {w : World} (hb : Bel w0 w) (hq : PkAt w (turnP p u) A' n' c' B' m' d') (h7 : Bk w g7 45 (pb (turnP p u) A' n' c' B' m' d')) (h1 : Bk w g1 45 (pb p A n c B m d)) : weftlaw23_turns.J4 g1 g7 w (Yes w0) := by
  have le := Pk.blen (ofE_case t.ho).1
  have ln := hp.opts.len
  unfold weftlaw23_turns.J4; intros
  rw [weftlaw23_turns.j4_eq]
  refine ld_head10 h7 ?_
  refine own_mk (hv 0 0 false false 0 0 0 0 0 none 0 0) (vs := pv (turnP p u) A' n' c') (Own.refl w) rfl rfl fun g11 w13 H k _ => ?_
  refine ⟨p.src, (h1.bel H.bel).cell 7 rfl, ?_⟩
  refine own_set 0 H rfl (by show 7 < 10; decide) fun w15 H => ?_
  refine ⟨p.dst, (h1.bel H.bel).cell 8 rfl, ?_⟩
  refine own_set 0 H rfl (by show 8 < 10; decide) fun w17 H => ?_
  replace H : Own w w17 [(g11, 43, hv p.tos p.id p.df p.mf p.off p.ttl p.proto p.src p.dst A' n' c')] := H
  refine ld_head10 (l := []) (H.bk 0 rfl) ?_
  refine ld_head10 (h1.bel H.bel) ?_
  have yq : By w A' n' p.opts := hq.opts
  have ln' := yq.len
  refine call_of (nheads_t (yq.bel H.bel) (hp.opts.bel (Bel.trans hb H.bel)) (by omega)) ?_
  rintro e w38 ⟨rfl, k38⟩
  exact ⟨_, rfl, rfl, Bel.trans hb (Bel.trans H.bel k38)⟩
theorem turns_j3 {w : World} (hb : Bel w0 w) (hq : PkAt w (turnP p u) A' n' c' B' m' d') (h7 : Bk w g7 45 (pb (turnP p u) A' n' c' B' m' d')) (h1 : Bk w g1 45 (pb p A n c B m d)) : weftlaw23_turns.J3 g1 g7 w (Yes w0) := by
  have j4 : ∀ {w' : World}, Bel w w' → weftlaw23_turns.J4 g1 g7 w' (Yes w0) := fun k => turns_j4 hp t (Bel.trans hb k) (hq.bel k) (h7.bel k) (h1.bel k)
  have le := Pk.blen (ofE_case t.ho).1
  have lm := hp.body.len
  have lm' := hq.body.len
  have lq := t.q.2.2.2.2.2
  unfold weftlaw23_turns.J3; intros
  rw [weftlaw23_turns.j3_eq]
  refine ⟨p.mf, h1.cell 3 rfl, ?_⟩
  refine ifNot (fun h2 => ?_) (fun h2 => ?_)
  · refine ⟨B, m, d, h1.cell 10 rfl, ?_⟩
    refine ifD (fun h3 => ?_) (fun h3 => ?_)
    · refine ld_pkt h1 ?_
      refine call_of (right_c t.h (hp.bel hb) (by omega)) ?_
      rintro e w14 ⟨rfl, k14⟩
      refine ⟨_, rfl, ?_⟩
      refine ifB (fun hr => ?_) (fun _ => ?_)
      · refine ld_pkt (h7.bel k14) ?_
        refine call_of (right_c t.q.1 (hq.bel k14) (by omega)) ?_
        rintro e w28 ⟨rfl, k28⟩
        refine ⟨_, rfl, ?_⟩
        refine ifNot (fun h => ?_) (fun _ => ?_)
        · rw [t.right hr le.2] at h
          cases h
        · have k := j4 (Bel.trans k14 k28)
          exact ⟨by with_reducible apply k⟩
      · have k := j4 k14
        exact ⟨by with_reducible apply k⟩
    · have k := j4 (Bel.refl w)
      exact ⟨by with_reducible apply k⟩
  · have k := j4 (Bel.refl w)
    exact ⟨by with_reducible apply k⟩
theorem turns_j2 {w : World} (hq : PkAt w (turnP p u) A' n' c' B' m' d') (H : Own w0 w [(g7, 45, pb (turnP p u) A' n' c' B' m' d'), (g5, 32, tpv (ofT p)), (g3, 32, tpv u), (g1, 45, pb p A n c B m d)]) :
    weftlaw23_turns.J2 g1 g3 g5 g7 0 w (Yes w0) := by
  have le := Pk.blen (ofE_case t.ho).1
  have ln := hp.opts.len
  have lm := hp.body.len
  have lm' := hq.body.len
  obtain ⟨q1, q2, q3, q4, q5, q6⟩ := t.q
  obtain ⟨tb, l, el, hN⟩ := t.back
  have eo2 : turnO (turnP p u) (ofT p) = { p with body := l } := by unfold turnO; rw [if_pos tb.turnE, el]
  have eo3 : turnO p (ofT p) = p := by unfold turnO; rw [if_pos t.self.turnE, turn_same rfl t.ho]
  unfold weftlaw23_turns.J2; intros
  rw [weftlaw23_turns.j2_eq]
  refine ld_pkt (H.bk 0 rfl) ?_
  have c1 := Of_c q1 hq
  rw [q4, q3] at c1
  refine call_of c1 ?_
  rintro e w12 ⟨rfl, k12⟩
  refine ⟨_, _, _, _, _, _, rfl, ?_⟩
  replace H := H.call k12
  refine own_mk (tpv tpz) (vs := tpv u) H rfl rfl fun g20 w22 H k22 _ => ?_
  refine ld_pkt (H.bk 1 rfl) ?_
  refine ⟨_, _, _, _, _, ⟨rfl, (H.bk 2 rfl).at⟩, ?_⟩
  have hq2 := (hq.bel k12).bel k22
  have c2 := Turn_c q1 t.sf hq2
  rw [eo2, tb.turnE] at c2
  refine call_of c2 ?_
  rintro e w39 ⟨k39, A2, n2, c2', B2, m2, d2, rfl, hb2, _, _⟩
  refine ⟨_, _, _, _, _, _, _, _, _, _, _, _, _, _, _, _, rfl, ?_⟩
  replace H := H.call k39
  refine own_mk (pb pz none 0 0 none 0 0) (vs := pb { p with body := l } A2 n2 c2' B2 m2 d2) H rfl rfl fun g53 w55 H k55 _ => ?_
  refine ld_pkt (H.bk 5 rfl) ?_
  refine ⟨_, _, _, _, _, ⟨rfl, (H.bk 3 rfl).at⟩, ?_⟩
  have c3 := Turn_c t.h t.sf (hp.bel H.bel)
  rw [eo3, t.self.turnE] at c3
  refine call_of c3 ?_
  rintro e w72 ⟨k72, A3, n3, c3', B3, m3, d3, rfl, hb3, _, _⟩
  refine ⟨_, _, _, _, _, _, _, _, _, _, _, _, _, _, _, _, rfl, ?_⟩
  replace H := H.call k72
  refine own_mk (pb pz none 0 0 none 0 0) (vs := pb p A3 n3 c3' B3 m3 d3) H rfl rfl fun g86 w88 H k88 _ => ?_
  refine ifN (fun h => absurd rfl h) (fun _ => ?_)
  refine ifN (fun h => absurd rfl h) (fun _ => ?_)
  refine ⟨_, _, _, _, _, ⟨rfl, (H.bk 2 rfl).at⟩, _, _, _, _, _, ⟨rfl, (H.bk 5 rfl).at⟩, ?_⟩
  refine ifNot (fun h => absurd (((eqV_tp u u).2 rfl).symm.trans h) (by decide)) (fun _ => ?_)
  refine ifN (fun h => absurd rfl h) (fun _ => ?_)
  refine ifN (fun h => absurd rfl h) (fun _ => ?_)
  refine ld_pkt (H.bk 1 rfl) ?_
  refine ld_pkt (H.bk 6 rfl) ?_
  have n1 : PkAt w88 { p with body := l } A2 n2 c2' B2 m2 d2 := (hb2.bel (Bel.trans k55 k72)).bel k88
  have n2' : PkAt w88 p A n c B m d := hp.bel H.bel
  have hn2 : p.opts.length = n2 := n1.opts.len
  have hm2 : l.length = m2 := n1.body.len
  have hl2 : p.body.length = l.length := hN.1
  have nn : Calls Tryd.prog 31 #[.agg (pb { p with body := l } A2 n2 c2' B2 m2 d2).toArray, .agg (pb p A n c B m d).toArray] w88 (Yes w88) := near_t (p := { p with body := l }) (l' := p.body) n1 n2' hN (by omega) (by omega)
  refine call_of nn ?_
  rintro e w121 ⟨rfl, k121⟩
  refine ⟨_, rfl, ?_⟩
  refine ifNot (fun h => by cases h) (fun _ => ?_)
  replace H := H.call k121
  refine ld_pkt (H.bk 0 rfl) ?_
  refine ld_pkt (H.bk 6 rfl) ?_
  have n3' : PkAt w121 p A3 n3 c3' B3 m3 d3 := (hb3.bel k88).bel k121
  have hn3 := n3'.opts.len
  have hm3 := n3'.body.len
  refine call_of (npackets_t n3' (hp.bel H.bel) (by omega) (by omega)) ?_
  rintro e w146 ⟨rfl, k146⟩
  refine ⟨_, rfl, ?_⟩
  refine ifNot (fun h => by cases h) (fun _ => ?_)
  replace H := H.call k146
  refine ⟨B', m', d', (H.bk 3 rfl).cell 10 rfl, B, m, d, (H.bk 6 rfl).cell 10 rfl, ?_⟩
  refine ifN (fun h => absurd (show (m' : Int) = (m : Int) by omega) h) (fun _ => ?_)
  have hq5 : PkAt w146 (turnP p u) A' n' c' B' m' d' := ((((hq2.bel k39).bel k55).bel k72).bel k88).bel (Bel.trans k121 k146)
  have k := turns_j3 (w := w146) hp t H.bel hq5 (H.bk 3 rfl) (H.bk 6 rfl)
  exact ⟨by with_reducible apply k⟩
end

theorem turns_t {w : World} {p : Pk} (hfine : p.Fine) {u : Tp} (hu : u.Fine) {A : Option Addr} {n c : Nat} {B : Option Addr} {m d : Nat} (hp : PkAt w p A n c B m d) :
    Calls Tryd.prog 16 #[.agg (pb p A n c B m d).toArray, .agg (tpv u).toArray] w (Yes w) := by
  refine weftlaw23_turns.run ?_
  unfold weftlaw23_turns.s
  refine own_new (l := pb p A n c B m d) (Own.refl w) fun g1 w2 H => ?_
  refine own_new (l := tpv u) H fun g3 w4 H => ?_
  refine ld_pkt (H.bk 1 rfl) ?_
  refine call_of (Of_c hfine (hp.bel H.bel)) ?_
  rintro e w16 ⟨rfl, k16⟩
  refine ⟨_, _, _, _, _, _, rfl, ?_⟩
  replace H := H.call k16
  refine own_mk (tpv tpz) (vs := tpv (ofT p)) H rfl rfl fun g24 w26 H k26 _ => ?_
  refine ld_pkt (H.bk 2 rfl) ?_
  refine ⟨_, _, _, _, _, ⟨rfl, (H.bk 1 rfl).at⟩, ?_⟩
  refine call_of (Turn_c hfine hu (hp.bel H.bel)) ?_
  rintro e w43 ⟨k43, A', n', c', B', m', d', rfl, hq, _, _⟩
  refine ⟨_, _, _, _, _, _, _, _, _, _, _, _, _, _, _, _, rfl, ?_⟩
  replace H := H.call k43
  refine own_mk (pb pz none 0 0 none 0 0) (vs := pb (turnO p u) A' n' c' B' m' d') H rfl rfl fun g57 w59 H k59 _ => ?_
  refine ld_pkt (H.bk 3 rfl) ?_
  refine call_of (Build_e hfine (hp.bel H.bel)) ?_
  rintro e w71 ⟨k71, C, i, j, rfl, _⟩
  refine ⟨_, _, _, _, rfl, ?_⟩
  replace H := H.call k71
  replace hq := (hq.bel k59).bel k71
  have no : turnE p u ≠ 0 → ∀ {K : Ending → World → Prop}, (∀ w', Bel w w' → K (.returned (.bool true)) w') → (∃ x1 : Int, ∃ x2 : Int, ∃ b3 : Bool, ∃ b4 : Bool, ∃ x5 : Int, ∃ x6 : Int, ∃ x7 : Int, ∃ x8 : Int, ∃ x9 : Int, ∃ (A10 : Option Addr) (n10 c10 : Nat), ∃ (A11 : Option Addr) (n11 c11 : Nat),
      (11 = 11 ∧ At w71 ⟨g57, 0, none⟩ [.int .u8 x1, .int .u16 x2, .bool b3, .bool b4, .int .i64 x5, .int .u8 x6, .int .u8 x7, .int .u32 x8, .int .u32 x9, .slice A10 n10 c10, .slice A11 n11 c11]) ∧
      (Calls Tryd.prog 30 #[.agg #[.int .u8 x1, .int .u16 x2, .bool b3, .bool b4, .int .i64 x5, .int .u8 x6, .int .u8 x7, .int .u32 x8, .int .u32 x9, .slice A10 n10 c10, .slice A11 n11 c11], .agg #[.int .u8 0, .int .u16 0, .bool false, .bool false, .int .i64 0, .int .u8 0, .int .u8 0, .int .u32 0, .int .u32 0, .slice none 0 0, .slice none 0 0]] w71 (fun (e13 : Ending) (w12 : World) =>
      ∃ b14 : Bool, e13 = .returned (.bool b14) ∧ K (.returned (.bool b14)) w12))) := fun h0 K hK => by
    have e : turnO p u = pz := by unfold turnO; rw [if_neg h0]
    rw [e] at hq H
    have l1 : (0 : Nat) = n' := hq.opts.len
    have l2 : (0 : Nat) = m' := hq.body.len
    refine ld_pkt (H.bk 0 rfl) ?_
    refine call_of (npackets_t hq (pz_at w71) (by omega) (by omega)) ?_
    rintro e w86 ⟨rfl, k86⟩
    exact ⟨_, rfl, hK _ (Bel.trans H.bel k86)⟩
  refine ifN (fun h1 => ?_) (fun h1 => ?_)
  · have e1 : turnE p u = p.err := by unfold turnE; rw [if_pos h1]
    refine ifE (fun _ => ?_) (fun h => absurd e1 h)
    exact no (by omega) (fun w' k => ⟨rfl, k⟩)
  have hE : p.err = 0 := by omega
  have j1 : ∀ z : Bool, (z = true → ofE p ≠ 0 ∨ u.proto ≠ p.proto ∨ (u.proto = 1 ∧ u.sp ≠ u.dp)) → (z = false → Tn p u) → weftlaw23_turns.J1 g1 g3 g24 g57 (turnE p u) z w71 (Yes w) := fun z hz hz2 => by
    unfold weftlaw23_turns.J1; intros
    rw [weftlaw23_turns.j1_eq]
    refine ifB (fun h2 => ?_) (fun h2 => ?_)
    · have e1 : turnE p u = 230 := by unfold turnE; rw [if_neg (fun hx => hx hE), if_pos (hz h2)]
      refine ifE (fun _ => ?_) (fun h => absurd e1 h)
      exact no (by omega) (fun w' k => ⟨rfl, k⟩)
    · have t := hz2 h2
      have eo : turnO p u = turnP p u := by unfold turnO; rw [if_pos t.turnE]
      rw [eo] at hq H
      have k := turns_j2 hp t hq H
      rw [← t.turnE] at k
      exact ⟨by with_reducible apply k⟩
  refine ifN (fun h2 => ?_) (fun h2 => ?_)
  · have k := j1 true (fun _ => Or.inl h2) (fun h => by cases h)
    exact ⟨by with_reducible apply k⟩
  have ho : ofE p = 0 := by omega
  have sp : (ofT p).proto = p.proto := by
    rw [ofT_is ho]
    unfold ofT1
    split <;> rfl
  refine ⟨u.proto, H.cell 2 2 rfl rfl, (ofT p).proto, H.cell 1 2 rfl rfl, ?_⟩
  refine ifN (fun h3 => ?_) (fun h3 => ?_)
  · have k := j1 true (fun _ => Or.inr (Or.inl (by rw [← sp]; exact h3))) (fun h => by cases h)
    exact ⟨by with_reducible apply k⟩
  have hpr : u.proto = p.proto := h3.trans sp
  refine ⟨(ofT p).proto, H.cell 1 2 rfl rfl, ?_⟩
  refine ifE (fun h4 => ?_) (fun h4 => ?_)
  · refine ⟨u.sp, H.cell 2 3 rfl rfl, u.dp, H.cell 2 4 rfl rfl, ?_⟩
    have k := j1 (u.sp != u.dp) (fun h => Or.inr (Or.inr ⟨by omega, by simpa using h⟩)) (fun h => ⟨hfine, hu, ho, hpr, fun _ => by simpa using h⟩)
    exact ⟨by with_reducible apply k⟩
  · have k := j1 false (fun h => by cases h) (fun _ => ⟨hfine, hu, ho, hpr, fun h => absurd (sp.trans h) h4⟩)
    exact ⟨by with_reducible apply k⟩
theorem NatBack_t {w : World} (hT : Tab w) {p : Pk} {A : Option Addr} {n c : Nat} {B : Option Addr} {m d : Nat} (hp : p.Fine ∧ PkAt w p A n c B m d) {u : Tp} (hu : u.Fine) :
    Calls Tryd.prog 5 #[.agg (pb p A n c B m d).toArray, .agg (tpv u).toArray] w (Yes w) := by
  refine weftlaw23_NatBack.run ?_
  unfold weftlaw23_NatBack.s
  refine own_new (l := pb p A n c B m d) (Own.refl w) fun g1 w2 H => ?_
  refine own_new (l := tpv u) H fun g3 w4 H => ?_
  refine call_of (first_t (w0 := w4) (hT.bel H.bel) (Bel.refl w4)) ?_
  rintro e w5 ⟨rfl, k5⟩
  refine ⟨_, rfl, ?_⟩
  refine ifB (fun _ => ?_) (fun h => by cases h)
  replace H := H.call k5
  refine call_of (datagram_c w5) ?_
  rintro e w8 ⟨g, rfl, H8⟩
  refine ⟨_, _, _, _, _, _, _, _, _, _, _, _, _, _, _, rfl, ?_⟩
  refine call_of (service_c w8) ?_
  rintro e w21 ⟨rfl, k21⟩
  refine ⟨_, _, _, _, _, rfl, ?_⟩
  replace H8 := H8.call k21
  have pa : PkAt w21 dgP none 0 0 (some ⟨g, 0, none⟩) 10 10 := ⟨By.nil _ _, (H8.bk 0 rfl).by, Nat.le_refl _, Nat.le_refl _⟩
  refine call_of (turns_t dgP_fine svT_fine pa) ?_
  rintro e w28 ⟨rfl, k28⟩
  refine ⟨_, rfl, ?_⟩
  refine ifB (fun _ => ?_) (fun h => by cases h)
  replace H := H.call (Bel.trans H8.bel k28)
  refine ld_pkt (H.bk 1 rfl) ?_
  refine ⟨_, _, _, _, _, ⟨rfl, (H.bk 0 rfl).at⟩, ?_⟩
  refine call_of (turns_t hp.1 hu (hp.2.bel H.bel)) ?_
  rintro e w47 ⟨rfl, k47⟩
  exact ⟨_, rfl, rfl, Bel.trans H.bel k47⟩
end Go.Proofs.YtphbdmafchjjeaaDoorS
