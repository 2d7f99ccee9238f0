/- Package weftlaw23: home, NatHome: the walk.
   Conditions: a packet's and a tuple's fields are of their kinds; the package variables hold their tables. -/
import Derived.Test.YtphbdmafchjjeaaDoorHSNtJ
namespace Go.Proofs.YtphbdmafchjjeaaDoorS
open Go Go.RowKit Go.Proofs Go.Proofs.YtphbdmafchjjeaaDoorX
set_option maxRecDepth 100000
set_option linter.unusedVariables false
set_option linter.unusedSectionVars false
set_option linter.unusedSimpArgs false

section
variable {w0 : World} (hg : Gl w0) {p : Pk} {u : Tp} (t : Tn p u) {A : Option Addr} {n c : Nat} {B : Option Addr} {m d : Nat} (hp : PkAt w0 p A n c B m d)
  {ty co src a b : Int} (ht : 0 ≤ ty ∧ ty ≤ 255) (hc : 0 ≤ co ∧ co ≤ 255) (hm : mayT ty = true) (hs : 0 ≤ src ∧ src ≤ 4294967295) (ha : 0 ≤ a ∧ a ≤ 4294967295) (hb : 0 ≤ b ∧ b ≤ 4294967295)
  {A' : Option Addr} {n' c' : Nat} {B' : Option Addr} {m' d' : Nat} {A2 : Option Addr} {n2 c2 : Nat} {B2 : Option Addr} {m2 d2 : Nat} {g1 g3 g5 g7 g19 g21 : Nat} {t7 : TypeId} {l7 : List Value}
include hg t hp ht hc hm hs ha hb
theorem home_j3 {w : World} {g24 g11 : Nat} {A3 : Option Addr} {c3 : Nat} {B3 : Option Addr} {d3 : Nat}
    (hx : PkAt w (fx (turnP p u) ty co src (turnP p u).src) A' n' c' B' m' d') (hy : PkAt w (fx (qt (turnP p u) (ofT p)) ty co a b) A2 n2 c2 B2 m2 d2)
    (hz : PkAt w ({ p with body := (qt (turnP p u) (ofT p)).body.take 8 } : Pk) A3 p.opts.length c3 B3 8 d3)
    (H : Own w0 w [(g24, 43, pv ({ p with body := (qt (turnP p u) (ofT p)).body.take 8 } : Pk) A3 p.opts.length c3), (g11, 43, pv (fx (turnP p u) ty co src (turnP p u).src) A2 n2 c2), (g21, 45, pb (fx (qt (turnP p u) (ofT p)) ty co a b) A2 n2 c2 B2 m2 d2), (g19, 45, pb (fx (turnP p u) ty co src (turnP p u).src) A' n' c' B' m' d'),
      (g7, t7, l7), (g5, 32, tpv (ofT p)), (g3, 32, tpv u), (g1, 45, pb p A n c B m d)]) :
    weftlaw23_home.J3 g1 g3 g19 g21 g24 B3 8 d3 w (Yes w0) := by
  obtain ⟨Q1, e1, N1, Q2, N2⟩ := t.home
  have Q := t.q8
  have P8 := t.p8
  have qs : 0 ≤ (turnP p u).src ∧ (turnP p u).src ≤ 4294967295 := Q.h.src
  have lo := hp.opts.len
  have lm := hp.body.len
  have l8 := P8.l8
  have o4 := P8.olen
  have pr1 : (qt (turnP p u) (ofT p)).proto = p.proto := t.q.2.2.2.2.1
  have cb := hp.cb
  unfold weftlaw23_home.J3; intros
  rw [weftlaw23_home.j3_eq]
  refine draws (fun w' => Bk w' g1 45 (pb p A n c B m d)) (H.drew.bk 7 rfl) fun w2 ew => ?_
  replace H := H.drew
  rw [← ew] at H
  have kw : Bel w w2 := by rw [ew]; exact (Bel.refl w).drew
  refine ⟨_, _, _, _, _, _, _, _, _, _, _, _, ⟨rfl, fun w' h => at10 h⟩, ?_⟩
  refine ⟨_, _, _, fun w' h => h.cell 10 rfl, ?_⟩
  refine ⟨⟨by omega, by omega⟩, ?_⟩
  refine own_newC (l := pb pz none 0 0 none 0 0) H fun g14 w15 H k15 h14 => ?_
  refine ⟨H.bk 8 rfl, ?_⟩
  refine own_putB 0 H rfl rfl (Nat.le_refl 11) fun w16 H u16 => ?_
  refine ⟨H.bk 8 rfl, ?_⟩
  replace H : Own w0 w16 [(g14, 45, pb ({ p with body := p.body.take 8 } : Pk) A n c B 8 d), (g24, 43, pv ({ p with body := (qt (turnP p u) (ofT p)).body.take 8 } : Pk) A3 p.opts.length c3), (g11, 43, pv (fx (turnP p u) ty co src (turnP p u).src) A2 n2 c2), (g21, 45, pb (fx (qt (turnP p u) (ofT p)) ty co a b) A2 n2 c2 B2 m2 d2), (g19, 45, pb (fx (turnP p u) ty co src (turnP p u).src) A' n' c' B' m' d'),
      (g7, t7, l7), (g5, 32, tpv (ofT p)), (g3, 32, tpv u), (g1, 45, pb p A n c B m d)] := H
  have k : Bel w w16 := kw.trans (But.bel k15 h14 u16)
  refine ld_head (H.bk 1 rfl) ?_
  refine own_mk (pb pz none 0 0 none 0 0) (vs := pb ({ p with body := (qt (turnP p u) (ofT p)).body.take 8 } : Pk) A3 p.opts.length c3 B3 8 d3) H rfl rfl fun g27 w29 H k29 _ => ?_
  refine ld_pkt (H.bk 4 rfl) ?_
  refine ⟨src, H.cell 5 7 rfl rfl, (turnP p u).src, H.cell 5 8 rfl rfl, ?_⟩
  refine ⟨_, _, _, _, _, ⟨rfl, (H.bk 8 rfl).at⟩, ?_⟩
  have eE : tfE (fx (qt (turnP p u) (ofT p)) ty co a b) u = 0 := Q1.fE ht hc hm (t.hp.trans pr1.symm) (fun h => t.hi (pr1.symm.trans h))
  have eO : tfO (fx (qt (turnP p u) (ofT p)) ty co a b) u src (turnP p u).src = fx (qt (qt (turnP p u) (ofT p)) u) ty co src (turnP p u).src := by unfold tfO; rw [if_pos eE]; exact Q1.fP ht hc hm t.hu Q2 _ _
  have cc := TurnFault_c (hg.bel H.bel).f (Q1.fxFine ht hc ha hb) t.hu src (turnP p u).src (hy.bel (k.trans k29))
  unfold RetTF at cc
  rw [eO, eE] at cc
  refine call_of cc ?_
  rintro e w48 ⟨k48, A4, n4, c4, B4, m4, d4, rfl, hw, _, _⟩
  refine ⟨_, _, _, _, _, _, _, _, _, _, _, _, _, _, _, _, rfl, ?_⟩
  refine own_mk (pb pz none 0 0 none 0 0) (vs := pb (fx (qt (qt (turnP p u) (ofT p)) u) ty co src (turnP p u).src) A4 n4 c4 B4 m4 d4) (H.call k48) rfl rfl fun g62 w64 H k64 _ => ?_
  refine ld_pkt (H.bk 1 rfl) ?_
  refine ld_pkt (H.bk 2 rfl) ?_
  have z1 : PkAt w64 ({ p with body := (qt (turnP p u) (ofT p)).body.take 8 } : Pk) A3 p.opts.length c3 B3 8 d3 := hz.bel (k.trans (k29.trans (k48.trans k64)))
  have z2 : PkAt w64 ({ ({ p with body := (qt (turnP p u) (ofT p)).body.take 8 } : Pk) with body := p.body.take 8 } : Pk) A n c B 8 d := ⟨hp.opts.bel H.bel, (hp.body.take (by omega)).bel H.bel, hp.co, by omega⟩
  refine call_of (near_t z1 z2 N1 (by omega) (by omega)) ?_
  rintro e w87 ⟨rfl, k87⟩
  replace H := H.call k87
  refine ⟨_, rfl, ?_⟩
  refine ifB (fun _ => ?_) (fun h => by cases h)
  refine ifE (fun _ => ?_) (fun h => absurd rfl h)
  refine ld_pkt (H.bk 0 rfl) ?_
  refine ld_pkt (H.bk 6 rfl) ?_
  refine call_of (icmpNear_t ht hc hm hs qs (hg.bel H.bel) Q Q2 (t.heads2 _) N2 (hw.bel (k64.trans k87)) (hx.bel (k.trans (k29.trans (k48.trans (k64.trans k87)))))) ?_
  rintro e w112 ⟨rfl, k112⟩
  exact ⟨_, rfl, rfl, H.bel.trans k112⟩
theorem home_j2 {w : World} (hx : PkAt w (fx (turnP p u) ty co src (turnP p u).src) A' n' c' B' m' d') (hy : PkAt w (fx (qt (turnP p u) (ofT p)) ty co a b) A2 n2 c2 B2 m2 d2)
    (H : Own w0 w [(g21, 45, pb (fx (qt (turnP p u) (ofT p)) ty co a b) A2 n2 c2 B2 m2 d2), (g19, 45, pb (fx (turnP p u) ty co src (turnP p u).src) A' n' c' B' m' d'),
      (g7, t7, l7), (g5, 32, tpv (ofT p)), (g3, 32, tpv u), (g1, 45, pb p A n c B m d)]) :
    weftlaw23_home.J2 g1 g3 g19 g21 w (Yes w0) := by
  obtain ⟨Q1, e1, N1, Q2, N2⟩ := t.home
  have P8 := t.p8
  have lo := hp.opts.len
  have lm := hp.body.len
  have l8 := P8.l8
  have o4 := P8.olen
  have ny : (0 : Nat) = n2 := hy.opts.len
  have nx : (0 : Nat) = n' := hx.opts.len
  unfold weftlaw23_home.J2; intros
  rw [weftlaw23_home.j2_eq]
  refine ld_head10 (H.bk 0 rfl) ?_
  refine own_mk hz (vs := pv (fx (qt (turnP p u) (ofT p)) ty co a b) A2 n2 c2) H rfl rfl fun g11 w13 H k13 h11 => ?_
  refine ⟨src, H.cell 2 7 rfl rfl, ?_⟩
  refine own_setB 0 H rfl (by show 7 < 10; decide) fun w15 H u15 => ?_
  refine ⟨(turnP p u).src, H.cell 2 8 rfl rfl, ?_⟩
  refine own_setB 0 H rfl (by show 8 < 10; decide) fun w17 H u17 => ?_
  replace H : Own w0 w17 [(g11, 43, pv (fx (turnP p u) ty co src (turnP p u).src) A2 n2 c2), (g21, 45, pb (fx (qt (turnP p u) (ofT p)) ty co a b) A2 n2 c2 B2 m2 d2), (g19, 45, pb (fx (turnP p u) ty co src (turnP p u).src) A' n' c' B' m' d'),
      (g7, t7, l7), (g5, 32, tpv (ofT p)), (g3, 32, tpv u), (g1, 45, pb p A n c B m d)] := H
  have k : Bel w w17 := But.bel (But.bel k13 h11 u15) h11 u17
  refine ld_pkt (H.bk 1 rfl) ?_
  have lo1 : (qt (turnP p u) (ofT p)).opts.length = p.opts.length := rfl
  have cc := about_fx ht hc hm ha hb (hg.bel H.bel) Q1 (t.heads _) (hy.bel k)
  rw [lo1] at cc
  refine call_of cc ?_
  rintro e w29 ⟨k29, A3, c3, B3, d3, rfl, hz3⟩
  refine ⟨_, _, _, _, _, _, _, _, _, _, _, _, _, _, _, _, rfl, ?_⟩
  refine own_mk hz (vs := pv ({ p with body := (qt (turnP p u) (ofT p)).body.take 8 } : Pk) A3 p.opts.length c3) (H.call k29) rfl rfl fun g43 w45 H k45 _ => ?_
  refine ifN (fun h => absurd rfl h) (fun _ => ?_)
  refine ⟨B, m, d, H.cell 7 10 rfl rfl, ?_⟩
  refine ifD (fun h => absurd h (by omega)) (fun _ => ?_)
  refine ld_head (H.bk 1 rfl) ?_
  refine ld_head10 (H.bk 3 rfl) ?_
  have ya : By w45 A2 n2 [] := hy.opts.bel (k.trans (k29.trans k45))
  have yb : By w45 A' n' [] := hx.opts.bel (k.trans (k29.trans k45))
  refine call_of (nheads_t ya yb (by omega)) ?_
  rintro e w67 ⟨rfl, k67⟩
  replace H := H.call k67
  refine ⟨_, rfl, ?_⟩
  refine ifNot (fun h => by cases h) (fun _ => ?_)
  refine ld_head (H.bk 0 rfl) ?_
  refine ld_head10 (H.bk 7 rfl) ?_
  have yc : By w67 A3 p.opts.length p.opts := hz3.opts.bel (k45.trans k67)
  refine call_of (nheads_t yc (hp.opts.bel H.bel) (by omega)) ?_
  rintro e w90 ⟨rfl, k90⟩
  replace H := H.call k90
  refine ⟨_, rfl, ?_⟩
  refine ifNot (fun h => by cases h) (fun _ => ?_)
  have k69 : Bel w45 w90 := Bel.trans k67 k90
  have kz : Bel w w90 := k.trans (k29.trans (k45.trans k69))
  have kk := home_j3 hg t hp ht hc hm hs ha hb (hx.bel kz) (hy.bel kz) (hz3.bel (k45.trans k69)) H
  exact ⟨by with_reducible apply kk⟩
end
section
variable {w0 : World} (hg : Gl w0) {p : Pk} {u : Tp} (t : Tn p u) {A : Option Addr} {n c : Nat} {B : Option Addr} {m d : Nat} (hp : PkAt w0 p A n c B m d)
  {ty co src a b : Int} (ht : 0 ≤ ty ∧ ty ≤ 255) (hc : 0 ≤ co ∧ co ≤ 255) (hs : 0 ≤ src ∧ src ≤ 4294967295) (ha : 0 ≤ a ∧ a ≤ 4294967295) (hb : 0 ≤ b ∧ b ≤ 4294967295)
include hg t hp ht hc hs ha hb
theorem home_j1 {w : World} {g1 g3 g5 g7 : Nat} {A' : Option Addr} {n' c' : Nat} {B' : Option Addr} {m' d' : Nat} (hq : PkAt w (turnP p u) A' n' c' B' m' d')
    (H : Own w0 w [(g7, 45, pb (turnP p u) A' n' c' B' m' d'), (g5, 32, tpv (ofT p)), (g3, 32, tpv u), (g1, 45, pb p A n c B m d)]) :
    weftlaw23_home.J1 ty co src a b g1 g3 g5 g7 w (Yes w0) := by
  obtain ⟨Q1, e1, N1, Q2, N2⟩ := t.home
  have Q := t.q8
  have qs : 0 ≤ (turnP p u).src ∧ (turnP p u).src ≤ 4294967295 := Q.h.src
  have pr0 : (turnP p u).proto = p.proto := t.q.2.2.2.2.1
  obtain ⟨s1, s2, s3, s4, s5⟩ := t.s_src
  unfold weftlaw23_home.J1; intros
  rw [weftlaw23_home.j1_eq]
  refine ld_pkt (H.bk 0 rfl) ?_
  refine call_of (Fault_c (hg.bel H.bel) Q.h hq ht hc hs) ?_
  rintro e w12 ⟨k12, A1, n1, c1, B1, m1, d1, rfl, hx, _, _⟩
  refine ⟨_, _, _, _, _, _, _, _, _, _, _, _, _, _, _, _, rfl, ?_⟩
  refine own_mk (pb pz none 0 0 none 0 0) (vs := pb (if faultE (turnP p u) ty co 0 src = 0 then faultP (turnP p u) ty co 0 src else pz) A1 n1 c1 B1 m1 d1) (H.call k12) rfl rfl fun g26 w28 H k28 _ => ?_
  refine ifN (fun _ => ⟨rfl, H.bel⟩) (fun hE => ?_)
  rw [if_pos hE, faultP_fx Q] at H hx
  have hm : mayT ty = true := nmayB_may ht.1 hc.1 (nfaultE_zero hE).1
  refine ld_pkt (H.bk 0 rfl) ?_
  refine ⟨_, _, _, _, _, ⟨rfl, (H.bk 2 rfl).at⟩, ?_⟩
  have eE : tfE (fx (turnP p u) ty co src (turnP p u).src) (ofT p) = 0 := Q.fE ht hc hm (s3.trans pr0.symm) (fun h => (s4 (pr0.symm.trans h)).1)
  have eO : tfO (fx (turnP p u) ty co src (turnP p u).src) (ofT p) a b = fx (qt (turnP p u) (ofT p)) ty co a b := by unfold tfO; rw [if_pos eE]; exact Q.fP ht hc hm t.sf Q1 _ _
  have cc := TurnFault_c (hg.bel H.bel).f (Q.fxFine ht hc hs qs) t.sf a b (hx.bel k28)
  unfold RetTF at cc
  rw [eO, eE] at cc
  refine call_of cc ?_
  rintro e w45 ⟨k45, A2, n2, c2, B2, m2, d2, rfl, hy, _, _⟩
  refine ⟨_, _, _, _, _, _, _, _, _, _, _, _, _, _, _, _, rfl, ?_⟩
  refine own_mk (pb pz none 0 0 none 0 0) (vs := pb (fx (qt (turnP p u) (ofT p)) ty co a b) A2 n2 c2 B2 m2 d2) (H.call k45) rfl rfl fun g59 w61 H k61 _ => ?_
  refine ifN (fun h => absurd rfl h) (fun _ => ?_)
  refine ⟨a, H.cell 0 7 rfl rfl, ifN (fun h => absurd rfl h) (fun _ => ?_)⟩
  refine ⟨b, H.cell 0 8 rfl rfl, ifN (fun h => absurd rfl h) (fun _ => ?_)⟩
  refine ⟨B2, m2, d2, H.cell 0 10 rfl rfl, B1, m1, d1, H.cell 1 10 rfl rfl, ?_⟩
  have lx := hx.body.len
  have ly := hy.body.len
  rw [fx_len Q] at lx
  rw [fx_len Q1] at ly
  have lo : (qt (turnP p u) (ofT p)).opts.length = (turnP p u).opts.length := rfl
  refine ifN (fun h => absurd (show (m2 : Int) = (m1 : Int) by omega) h) (fun _ => ?_)
  have kk := home_j2 hg t hp ht hc hm hs ha hb (hx.bel (k28.trans (k45.trans k61))) (hy.bel k61) H
  exact ⟨by with_reducible apply kk⟩
end
theorem home_t {w : World} (hg : Gl w) {p : Pk} (h : p.Fine) {u : Tp} (hu : u.Fine) {A : Option Addr} {n c : Nat} {B : Option Addr} {m d : Nat} (hp : PkAt w p A n c B m d)
    {ty co src a b : Int} (ht : 0 ≤ ty ∧ ty ≤ 255) (hc : 0 ≤ co ∧ co ≤ 255) (hs : 0 ≤ src ∧ src ≤ 4294967295) (ha : 0 ≤ a ∧ a ≤ 4294967295) (hb : 0 ≤ b ∧ b ≤ 4294967295) :
    Calls Tryd.prog 19 #[.agg (pb p A n c B m d).toArray, .agg (tpv u).toArray, .int .u8 ty, .int .u8 co, .int .u32 src, .int .u32 a, .int .u32 b] w (Yes w) := by
  refine weftlaw23_home.run ?_
  unfold weftlaw23_home.s
  refine own_new (l := pb p A n c B m d) (Own.refl w) fun g1 w2 H => ?_
  refine own_new (l := tpv u) H fun g3 w4 H => ?_
  refine ld_pkt (H.bk 1 rfl) ?_
  refine call_of (Of_c h (hp.bel H.bel)) ?_
  rintro e w16 ⟨rfl, k16⟩
  refine ⟨_, _, _, _, _, _, rfl, ?_⟩
  refine own_mk (tpv tpz) (vs := tpv (ofT p)) (H.call k16) rfl rfl fun g24 w26 H k26 _ => ?_
  refine ld_pkt (H.bk 2 rfl) ?_
  refine ⟨_, _, _, _, _, ⟨rfl, (H.bk 1 rfl).at⟩, ?_⟩
  refine call_of (Turn_c h hu (hp.bel H.bel)) ?_
  rintro e w43 ⟨k43, A', n', c', B', m', d', rfl, hq, _, _⟩
  refine ⟨_, _, _, _, _, _, _, _, _, _, _, _, _, _, _, _, rfl, ?_⟩
  refine own_mk (pb pz none 0 0 none 0 0) (vs := pb (turnO p u) A' n' c' B' m' d') (H.call k43) rfl rfl fun g57 w59 H k59 _ => ?_
  have no : turnE p u ≠ 0 → Yes w (.returned (.bool (turnE p u != 0))) w59 := fun hx => by
    refine ⟨?_, H.bel⟩
    rw [show (turnE p u != 0) = true by simpa using hx]
  refine ifN (fun h1 => ?_) (fun h1 => ?_)
  · refine no ?_
    unfold turnE
    by_cases h2 : p.err ≠ 0
    · rw [if_pos h2]; exact h2
    · rw [if_neg h2, if_pos (Or.inl h1)]; decide
  refine ifN (fun h2 => no h2) (fun h2 => ?_)
  have t := turnE_zero h hu h2
  have eo : turnO p u = turnP p u := by unfold turnO; rw [if_pos h2]
  rw [eo] at hq H
  have kk := home_j1 hg t hp ht hc hs ha hb (hq.bel k59) H
  exact ⟨by with_reducible apply kk⟩
theorem NatHome_t {w : World} (hTg : Tab w ∧ Gl w) {p : Pk} {A : Option Addr} {n c : Nat} {B : Option Addr} {m d : Nat} (hp : p.Fine ∧ PkAt w p A n c B m d) {u : Tp} (hu : u.Fine)
    {ty co src a b : Int} (ht : 0 ≤ ty ∧ ty ≤ 255) (hc : 0 ≤ co ∧ co ≤ 255) (hs : 0 ≤ src ∧ src ≤ 4294967295) (ha : 0 ≤ a ∧ a ≤ 4294967295) (hb : 0 ≤ b ∧ b ≤ 4294967295) :
    Calls Tryd.prog 6 #[.agg (pb p A n c B m d).toArray, .agg (tpv u).toArray, .int .u8 ty, .int .u8 co, .int .u32 src, .int .u32 a, .int .u32 b] w (Yes w) := by
  have hT := hTg.1
  have hg := hTg.2
  refine weftlaw23_NatHome.run ?_
  unfold weftlaw23_NatHome.s
  refine own_new (l := pb p A n c B m d) (Own.refl w) fun g1 w2 H => ?_
  refine own_new (l := tpv u) H fun g3 w4 H => ?_
  refine call_of (first_t (w0 := w4) (hT.bel H.bel) (Bel.refl w4)) ?_
  rintro e w5 ⟨rfl, k5⟩
  refine ⟨_, rfl, ?_⟩
  refine ifB (fun _ => ?_) (fun h => by cases h)
  replace H := H.call k5
  refine call_of (datagram_c w5) ?_
  rintro e w8 ⟨g, rfl, H8⟩
  refine ⟨_, _, _, _, _, _, _, _, _, _, _, _, _, _, _, rfl, ?_⟩
  refine call_of (service_c w8) ?_
  rintro e w21 ⟨rfl, k21⟩
  refine ⟨_, _, _, _, _, rfl, ?_⟩
  replace H8 := H8.call k21
  have pa : PkAt w21 dgP none 0 0 (some ⟨g, 0, none⟩) 10 10 := ⟨By.nil _ _, (H8.bk 0 rfl).by, Nat.le_refl _, Nat.le_refl _⟩
  refine call_of (home_t (hg.bel (H.bel.trans H8.bel)) dgP_fine svT_fine pa (ty := 3) (co := 3) (src := 168100353) (by decide) (by decide) (by decide) ha hb) ?_
  rintro e w28 ⟨rfl, k28⟩
  refine ⟨_, rfl, ?_⟩
  refine ifB (fun _ => ?_) (fun h => by cases h)
  replace H := H.call (Bel.trans H8.bel k28)
  refine ld_pkt (H.bk 1 rfl) ?_
  refine ⟨_, _, _, _, _, ⟨rfl, (H.bk 0 rfl).at⟩, ?_⟩
  refine call_of (home_t (hg.bel H.bel) hp.1 hu (hp.2.bel H.bel) ht hc hs ha hb) ?_
  rintro e w47 ⟨rfl, k47⟩
  exact ⟨_, rfl, rfl, Bel.trans H.bel k47⟩
end Go.Proofs.YtphbdmafchjjeaaDoorS
