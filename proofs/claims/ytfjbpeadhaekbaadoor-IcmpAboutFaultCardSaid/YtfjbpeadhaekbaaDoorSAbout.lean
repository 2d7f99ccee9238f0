/- IcmpAboutFault: what the law answers.
   Conditions: the three package variables hold their tables; bytes are 0 to 255; lists are no longer than memory lets. -/
import Derived.Test.YtfjbpeadhaekbaaDoorSLawB
import Derived.Test.YtfjbpeadhaekbaaDoorSStorm
import Derived.Test.YtfjbpeadhaekbaaDoorSCut
import Derived.Test.YtfjbpeadhaekbaaDoorSFH
namespace Go.Proofs.YtfjbpeadhaekbaaDoorS
open Go Go.RowKit Go.Proofs Go.Proofs.YtfjbpeadhaekbaaDoorX
set_option maxRecDepth 100000
set_option linter.unusedVariables false
set_option linter.unusedSimpArgs false

theorem quiet_false {p : Pk} (h : quietP p = false) : plainA p.src = true ∧ plainA p.dst = true := by
  unfold quietP at h
  simp at h
  exact ⟨h.1.1.2, h.1.2⟩
/-- What the answer to a fault's packet tells of the packet that was quoted. -/
theorem about_fault {p : Pk} (h : p.Fine) {t c x src : Int} (ht : 0 ≤ t ∧ t ≤ 255) (hc : 0 ≤ c ∧ c ≤ 255) (he : faultE p t c x src = 0) :
    aboutE (faultP p t c x src) = 0 ∧ (faultP p t c x src).body.drop 8 = (p.bytes p.sum).take (20 + p.opts.length + min 8 p.body.length) := by
  obtain ⟨h1, h2, h3, h4⟩ := faultE_zero he
  have hf := faultI_fine h h3 ht.1 hc.1 h1
  have hl := faultI_len h3 t c x
  have hm : msgE (faultP p t c x src) = 0 := madeP_msg hf (by omega)
  have ed : (faultP p t c x src).body.drop 8 = (p.bytes p.sum).take (20 + p.opts.length + min 8 p.body.length) := rfl
  refine ⟨?_, ed⟩
  unfold aboutE
  have e2 : (faultP p t c x src).body.getD 0 0 = t := rfl
  rw [if_neg (not_not_intro hm), e2, mayB_fault ht.1 hc.1 h1, if_neg (by decide), ed]
  exact (cut_ok h h3 (by omega) (by unfold Pk.tl; omega)).front
theorem about_j3 {w w0 : World} {p q : Pk} {g1 g3 : Nat} {A : Option Addr} {n c : Nat} {B : Option Addr} {m d : Nat} {qA : Option Addr} {qn qc : Nat} {qB : Option Addr} {qm qd : Nat} {M : List (Nat × TypeId × List Value)}
    (H : Own w w0 ((g3, 29, pb q qA qn qc qB qm qd) :: (g1, 29, pb p A n c B m d) :: M)) (e1 : q.dst = p.src) (e2 : q.ttl = 64) (e3 : q.df = false) (p1 : plainA q.src = true) (p2 : plainA q.dst = true) :
    weftlaw6_about.J3 q.src g1 g3 w0 (Yes w) := by
  unfold weftlaw6_about.J3; intros
  rw [weftlaw6_about.j3_eq]
  refine ⟨_, H.cell 0 7 rfl rfl, ifE (fun _ => ?_) (fun h => absurd rfl h)⟩
  refine ⟨_, H.cell 0 8 rfl rfl, _, H.cell 1 7 rfl rfl, ifE (fun _ => ?_) (fun h => absurd e1 h)⟩
  refine ⟨_, H.cell 0 5 rfl rfl, ifE (fun _ => ?_) (fun h => absurd e2 h)⟩
  refine ⟨_, H.cell 0 2 rfl rfl, ifNot (fun _ => ?_) (fun h => by rw [e3] at h; cases h)⟩
  refine ⟨_, H.cell 0 7 rfl rfl, ?_⟩
  refine call_of (lawplain_c w0 _) ?_
  rintro e w1 ⟨rfl, k1⟩
  replace H := H.call k1
  refine ⟨_, rfl, ifB (fun _ => ?_) (fun h => by rw [p1] at h; cases h)⟩
  refine ⟨_, H.cell 0 8 rfl rfl, ?_⟩
  refine call_of (lawplain_c w1 _) ?_
  rintro e w2 ⟨rfl, k2⟩
  exact ⟨_, rfl, by rw [p2], H.bel.trans k2⟩
theorem about_j2 {w w0 : World} {p : Pk} {i : Ic} {src : Int} {g1 g3 : Nat} {A : Option Addr} {n c : Nat} {B : Option Addr} {m d : Nat} {qA : Option Addr} {qn qc : Nat} {qB : Option Addr} {qm qd : Nat} {M : List (Nat × TypeId × List Value)}
    (H : Own w w0 ((g3, 29, pb (madeP 0 src p.src i) qA qn qc qB qm qd) :: (g1, 29, pb p A n c B m d) :: M)) (hq : PkAt w0 (madeP 0 src p.src i) qA qn qc qB qm qd) (hf : i.Fine) (h5 : i.body.length ≤ 65507) (hq' : (madeP 0 src p.src i).Fine)
    (hn : p.opts.length = n) (hl : i.body.length = 20 + p.opts.length + min 8 m) (ho : p.opts.length ≤ 40) (p1 : plainA src = true) (p2 : plainA p.src = true) {y : Int} (hy : y = ((min 8 m : Nat) : Int)) :
    weftlaw6_about.J2 i.typ i.code src g1 g3 y w0 (Yes w) := by
  unfold weftlaw6_about.J2; intros
  rw [weftlaw6_about.j2_eq]
  refine ld_pkt (H.bk 0 rfl) ?_
  refine call_of (Build_e hq' hq) ?_
  rintro e w1 ⟨k1, C, ci, cj, rfl, hC⟩
  have he : (madeP 0 src p.src i).err = 0 := madeP_err h5
  obtain ⟨rfl, _, _, _⟩ := hC he
  replace H := H.call k1
  replace hq := hq.bel k1
  refine ⟨_, _, _, _, rfl, ?_⟩
  refine ⟨qB, qm, qd, H.cell 0 10 rfl rfl, ?_⟩
  refine call_of (Parse_c hq.body hq'.body hq.cb) ?_
  rintro e w2 ⟨k2, e2⟩
  rw [if_pos (show icBad (madeP 0 src p.src i).body = 0 from icBad_own hf h5)] at e2
  obtain ⟨D, dc, rfl, hD, _, _⟩ := e2
  replace H := H.call k2
  refine ⟨_, _, _, _, _, _, _, rfl, ?_⟩
  refine own_new (l := mv 0 0 0 none 0 0) H fun g4 w3 H => ?_
  refine own_put 0 H rfl rfl (Nat.le_refl 4) fun w4 H => ?_
  refine ifN (fun h => absurd he h) (fun _ => ?_)
  refine ifN (fun h => absurd rfl h) (fun _ => ?_)
  refine ⟨A, n, c, H.cell 2 9 rfl rfl, ?_⟩
  refine let_as (48 + (n : Int)) (w64 (by omega) (by omega)) ?_
  refine let_as (48 + (n : Int) + y) (w64 (by omega) (by omega)) ?_
  have htl : (madeP 0 src p.src i).tl = 20 + 0 + (i.bytes i.sum).length := rfl
  rw [Ic.len] at htl
  refine ifN (fun h => absurd (by omega) h) (fun _ => ?_)
  refine ⟨_, H.cell 0 0 rfl rfl, ifN (fun h => absurd rfl h) (fun _ => ?_)⟩
  refine ⟨_, H.cell 0 1 rfl rfl, ifN (fun h => absurd rfl h) (fun _ => ?_)⟩
  refine ⟨?_⟩
  apply about_j3 (q := madeP 0 src p.src i) H.tail rfl rfl rfl p1 p2
theorem about_t {w : World} (hg : Gl w) {p : Pk} (h : p.Fine) {A : Option Addr} {n c : Nat} {B : Option Addr} {m d : Nat} (hp : PkAt w p A n c B m d) {t k x src : Int} (ht : 0 ≤ t ∧ t ≤ 255) (hk : 0 ≤ k ∧ k ≤ 255) (hs : 0 ≤ src ∧ src ≤ 4294967295) :
    Calls Tryd.prog 19 #[.agg (pb p A n c B m d).toArray, .int .u8 t, .int .u8 k, .int .i64 x, .int .u32 src] w (Yes w) := by
  refine weftlaw6_about.run ?_
  unfold weftlaw6_about.s
  refine own_new (l := pb p A n c B m d) (Own.refl w) fun g1 w1 H => ?_
  refine ld_pkt (H.bk 0 rfl) ?_
  refine call_of (Fault_c (hg.bel H.bel) h (hp.bel H.bel) ht hk hs) ?_
  rintro e w2 ⟨k2, he⟩
  unfold RetE RetPk at he
  obtain ⟨qA, qn, qc, qB, qm, qd, rfl, hq, f1, f2⟩ := he
  replace H := H.call k2
  refine ⟨_, _, _, _, _, _, _, _, _, _, _, _, _, _, _, _, rfl, ?_⟩
  refine own_newC (l := pb pz none 0 0 none 0 0) H fun g3 w4 H k4 hg3 => ?_
  have n1 := hq.opts.newer hg3
  have n2 := hq.body.newer hg3
  replace hq := hq.bel k4
  refine own_putB 0 H rfl rfl (Nat.le_refl 11) fun w5 H u5 => ?_
  replace H : Own w w5 [(g3, 29, pb (if faultE p t k x src = 0 then faultP p t k x src else pz) qA qn qc qB qm qd), (g1, 29, pb p A n c B m d)] := H
  replace hq : PkAt w5 _ qA qn qc qB qm qd := ⟨hq.opts.but1 u5 n1, hq.body.but1 u5 n2, hq.co, hq.cb⟩
  refine ifN (fun h1 => ?_) (fun h1 => ?_)
  · rw [if_neg h1] at H hq
    refine ld_pkt (H.bk 0 rfl) ?_
    refine call_of (packets_pz hq) ?_
    rintro e w6 ⟨rfl, k6⟩
    exact ⟨_, rfl, rfl, H.bel.trans k6⟩
  rw [if_pos h1] at H hq
  obtain ⟨z1, z2, z3, z4⟩ := faultE_zero h1
  obtain ⟨p1, p2⟩ := quiet_false z4
  have hF := faultI_fine h z3 ht.1 hk.1 z1
  have hL := faultI_len z3 t k x
  have hQ := fault_told h ht hk hs h1
  obtain ⟨ea, eb⟩ := about_fault h ht hk h1
  have hC := cut_ok h z3 (n := 20 + p.opts.length + min 8 p.body.length) (by omega) (by unfold Pk.tl; omega)
  have lb := hp.body.len
  have lo := hp.opts.len
  have ho := oOK_len (Pk.err_zero z3).1
  refine ld_pkt (H.bk 0 rfl) ?_
  refine call_of (About_c (hg.bel H.bel) hQ.fine hq) ?_
  rintro e w6 ⟨k6, he⟩
  unfold RetAb at he
  rw [if_pos ea, eb] at he
  obtain ⟨A1, c1, A2, c2, rfl, b1, b2, l1, l2, f1, f2⟩ := he
  have ehd := hC.head (0 : Int)
  simp only [hdF, Prod.mk.injEq] at ehd
  obtain ⟨r0, r1, r2, r3, r4, r5, r6, r7, r8, _⟩ := ehd
  have hopts := hC.opts
  have hrest := hC.rest
  unfold optsOf at hopts
  rw [hopts] at b1
  rw [hrest] at b2
  have erest : ((p.bytes p.sum).take (20 + p.opts.length + min 8 p.body.length)).drop (20 + p.opts.length) = p.body.take (min 8 p.body.length) := by
    have e : p.bytes p.sum = p.head p.sum ++ p.body := rfl
    rw [List.drop_take, e, List.drop_left' (Pk.head_len p p.sum)]
    congr 1
    omega
  rw [erest] at b2
  replace H := H.call k6
  replace hq := hq.bel k6
  refine ⟨_, _, _, _, _, _, _, _, _, _, _, _, _, _, _, _, rfl, ?_⟩
  refine own_newC (l := hz) H fun g4 w7 H k7 hg4 => ?_
  have n1 := b1.newer hg4
  have n2 := b2.newer hg4
  have n3 := hq.opts.newer hg4
  have n4 := hq.body.newer hg4
  replace b1 := b1.bel k7
  replace b2 := b2.bel k7
  replace hq := hq.bel k7
  refine own_putB 0 H rfl rfl (Nat.le_refl 10) fun w8 H u8 => ?_
  replace b1 := b1.but1 u8 n1
  replace b2 := b2.but1 u8 n2
  replace hq : PkAt w8 _ qA qn qc qB qm qd := ⟨hq.opts.but1 u8 n3, hq.body.but1 u8 n4, hq.co, hq.cb⟩
  have ehb : ∀ C i j, hb ((p.bytes p.sum).take (20 + p.opts.length + min 8 p.body.length)) C i j = pv p C i j := fun C i j => by
    unfold hb pv
    rw [r0, r1, r2, r3, r4, r5, r6, r7, r8]
  replace H : Own w w8 [(g4, 27, hb ((p.bytes p.sum).take (20 + p.opts.length + min 8 p.body.length)) A1 (hlen ((p.bytes p.sum).take (20 + p.opts.length + min 8 p.body.length)) - 20) c1), (g3, 29, pb (faultP p t k x src) qA qn qc qB qm qd), (g1, 29, pb p A n c B m d)] := H
  rw [ehb] at H
  have fin : ∀ y, y = ((min 8 m : Nat) : Int) → weftlaw6_about.J1 t k src g1 g3 g4 A2 (there ((p.bytes p.sum).take (20 + p.opts.length + min 8 p.body.length)) - hlen ((p.bytes p.sum).take (20 + p.opts.length + min 8 p.body.length))) c2 0 y w8 (Yes w) := by
    intro y hy
    unfold weftlaw6_about.J1; intros
    rw [weftlaw6_about.j1_eq]
    refine ifN (fun h => absurd rfl h) (fun _ => ?_)
    refine ld_head (H.bk 0 rfl) ?_
    refine ld_head10 (H.bk 2 rfl) ?_
    refine call_of (heads_t b1 (hp.opts.bel H.bel) (by have := b1.len; omega)) ?_
    rintro e w9 ⟨rfl, k9⟩
    replace H := H.call k9
    replace hq := hq.bel k9
    refine ⟨_, rfl, ifNot (fun h => by cases h) (fun _ => ?_)⟩
    refine ⟨B, m, d, H.cell 2 10 rfl rfl, ?_⟩
    have hcd := hp.cb
    refine ⟨⟨by omega, by omega⟩, ?_⟩
    have ey : y.toNat = min 8 m := by omega
    rw [ey]
    have hbt := (hp.body.bel H.bel).take (k := min 8 m) (by omega)
    rw [← lb] at hbt ⊢
    refine call_of (same_t (b2.bel k9) hbt (by have := b2.len; rw [List.length_take] at this; omega)) ?_
    rintro e w10 ⟨rfl, k10⟩
    replace H := H.call k10
    replace hq := hq.bel k10
    refine ⟨_, rfl, ifNot (fun h => by cases h) (fun _ => ?_)⟩
    refine ⟨?_⟩
    apply about_j2 (i := faultI p t k x) (p := p) (src := src) H.tail hq hF (by omega) hQ.fine lo (by omega) ho.1 z2 p1 (by omega)
  refine ⟨B, m, d, H.cell 2 10 rfl rfl, ?_⟩
  refine ifD (fun h => ?_) (fun h => ?_)
  · refine ⟨?_⟩
    apply fin
    omega
  · refine ⟨?_⟩
    apply fin
    omega
theorem IcmpAboutFault_t {w : World} (hg : Gl w) {p : Pk} (h : p.Fine) {A : Option Addr} {n c : Nat} {B : Option Addr} {m d : Nat} (hp : PkAt w p A n c B m d) {t k x src : Int} (ht : 0 ≤ t ∧ t ≤ 255) (hk : 0 ≤ k ∧ k ≤ 255) (hx : -9223372036854775808 ≤ x ∧ x ≤ 9223372036854775807) (hs : 0 ≤ src ∧ src ≤ 4294967295) :
    Calls Tryd.prog 5 #[.agg (pb p A n c B m d).toArray, .int .u8 t, .int .u8 k, .int .i64 x, .int .u32 src] w (Yes w) := by
  refine weftlaw6_IcmpAboutFault.run ?_
  unfold weftlaw6_IcmpAboutFault.s
  refine own_new (l := pb p A n c B m d) (Own.refl w) fun g1 w1 H => ?_
  refine call_of (small_c w1) ?_
  rintro e w2 ⟨k2, sA, sc, sB, sd, rfl, hs6, _, _⟩
  replace H := H.call k2
  refine ⟨_, _, _, _, _, _, _, _, _, _, _, _, _, _, _, rfl, ?_⟩
  refine call_of (Fault_c (hg.bel H.bel) small6_fine hs6 (t := 3) (k := 4) (x := 1400) (src := 167838209) (by decide) (by decide) (by decide)) ?_
  rintro e w3 ⟨k3, he⟩
  have ee : faultE small6 3 4 1400 167838209 = 0 := by
    unfold faultE
    rw [if_neg (by decide), if_neg (by decide), if_neg (not_not_intro small6_err), if_neg (by decide)]
  rw [ee] at he
  obtain ⟨qA, qn, qc, qB, qm, qd, rfl, hq, f1, f2⟩ := he
  replace H := H.call k3
  refine ⟨_, _, _, _, _, _, _, _, _, _, _, _, _, _, _, _, rfl, ?_⟩
  refine own_new (l := pb pz none 0 0 none 0 0) H fun g3 w4 H => ?_
  refine own_put 0 H rfl rfl (Nat.le_refl 11) fun w5 H => ?_
  refine ifE (fun _ => ?_) (fun h => absurd rfl h)
  refine call_of (small_c w5) ?_
  rintro e w6 ⟨k6, sA2, sc2, sB2, sd2, rfl, hs7, _, _⟩
  replace H := H.call k6
  refine ⟨_, _, _, _, _, _, _, _, _, _, _, _, _, _, _, rfl, ?_⟩
  refine call_of (about_t (hg.bel H.bel) small6_fine hs7 (t := 3) (k := 4) (x := 1400) (src := 167838209) (by decide) (by decide) (by decide)) ?_
  rintro e w7 ⟨rfl, k7⟩
  replace H := H.call k7
  refine ⟨_, rfl, ?_⟩
  refine ifB (fun _ => ?_) (fun h => by cases h)
  refine ld_pkt (H.bk 1 rfl) ?_
  refine call_of (about_t (hg.bel H.bel) h (hp.bel H.bel) ht hk hs) ?_
  rintro e w8 ⟨rfl, k8⟩
  exact ⟨_, rfl, rfl, H.bel.trans k8⟩
end Go.Proofs.YtfjbpeadhaekbaaDoorS
