/- IcmpEchoBack: what the law answers.
   Conditions: the three package variables hold their tables; bytes are 0 to 255; lists are no longer than memory lets. -/
import Derived.Test.YtfjbpeadhaekbaaDoorSStorm
import Derived.Test.YtfjbpeadhaekbaaDoorSFI
namespace Go.Proofs.YtfjbpeadhaekbaaDoorS
open Go Go.RowKit Go.Proofs Go.Proofs.YtfjbpeadhaekbaaDoorX
set_option maxRecDepth 100000
set_option linter.unusedVariables false
set_option linter.unusedSimpArgs false

/-- The request. -/
def askI (rest : Int) (body : List Int) : Ic := ⟨8, 0, rest, body⟩
def ansI (rest : Int) (body : List Int) : Ic := ⟨0, 0, rest, body⟩
def askP (h : Pk) (i : Ic) : Pk := ⟨h.tos, h.id, h.df, false, 0, h.ttl, 1, h.src, h.dst, h.opts, i.bytes i.sum⟩
section
variable {h : Pk} (hf : h.Fine) {rest : Int} {body : List Int} (hr : 0 ≤ rest ∧ rest ≤ 4294967295) (hb : Bytes body) (h5 : body.length ≤ 65507)
include hr hb h5 in
theorem askI_fine : (askI rest body).Fine := ⟨by show 0 ≤ (8 : Int) ∧ (8 : Int) ≤ 255; decide, by show 0 ≤ (0 : Int) ∧ (0 : Int) ≤ 255; decide, hr, hb, by show body.length ≤ _; omega⟩
include hr hb h5 in
theorem ansI_fine : (ansI rest body).Fine := ⟨by show 0 ≤ (0 : Int) ∧ (0 : Int) ≤ 255; decide, by show 0 ≤ (0 : Int) ∧ (0 : Int) ≤ 255; decide, hr, hb, by show body.length ≤ _; omega⟩
include hf hr hb h5 in
theorem askP_fine : (askP h (askI rest body)).Fine := by
  have hl := Ic.len (askI rest body) (askI rest body).sum
  have e : (askI rest body).body.length = body.length := rfl
  refine ⟨hf.tos, hf.id, by show -9223372036854775808 ≤ (0 : Int) ∧ (0 : Int) ≤ 9223372036854775807; decide, hf.ttl, by show 0 ≤ (1 : Int) ∧ (1 : Int) ≤ 255; decide, hf.src, hf.dst, hf.opts, Ic.bytes_bytes (askI_fine hr hb h5) _, hf.lo, ?_⟩
  show ((askI rest body).bytes (askI rest body).sum).length ≤ _
  omega
include hr hb h5 in
theorem echo_ask : echoE (askP h (askI rest body)) = (if (askP h (askI rest body)).err ≠ 0 then (askP h (askI rest body)).err else if plainA h.src = false then 61 else if plainA h.dst = false then 61 else 0) ∧
    echoP (askP h (askI rest body)) = madeP h.tos h.dst h.src (ansI rest body) := by
  have hi := askI_fine hr hb h5
  constructor
  · by_cases he : (askP h (askI rest body)).err ≠ 0
    · rw [if_pos he]
      have hm : msgE (askP h (askI rest body)) = (askP h (askI rest body)).err := by unfold msgE; rw [if_pos he]
      unfold echoE
      rw [if_pos (by rw [hm]; exact he), hm]
    · rw [if_neg he]
      have hm : msgE (askP h (askI rest body)) = 0 := by
        unfold msgE
        rw [if_neg he, if_neg (show ¬ (askP h (askI rest body)).proto ≠ 1 from not_not_intro rfl), if_neg (show ¬ (askP h (askI rest body)).off > 0 from by show ¬ (0 : Int) > 0; decide), if_neg (show ¬ (askP h (askI rest body)).mf = true from by show ¬ false = true; decide)]
        exact icBad_own hi h5
      unfold echoE
      rw [if_neg (not_not_intro hm), if_neg (show ¬ ((askP h (askI rest body)).body.getD 0 0 ≠ 8 ∨ (askP h (askI rest body)).body.getD 1 0 ≠ 0) from fun h => h.elim (fun h => h rfl) (fun h => h rfl))]
      rfl
  · have e : echoI (askP h (askI rest body)) = ansI rest body := by
      show (⟨0, 0, lg ((askI rest body).bytes (askI rest body).sum) 4, body⟩ : Ic) = ⟨0, 0, rest, body⟩
      rw [lg_own hi]
      rfl
    show madeP h.tos h.dst h.src (echoI (askP h (askI rest body))) = _
    rw [e]
end
/-- What is known of the answer. -/
structure Ans (q : Pk) : Prop where
  fine : q.Fine
  echo : echoE q = 62
  about : aboutE q = 62
  fault : faultE q 3 1 0 167838209 = 0
theorem ans_of {i : Ic} (hi : i.Fine) (h5 : i.body.length ≤ 65507) (h0 : i.typ = 0) {tos src dst : Int} (ht : 0 ≤ tos ∧ tos ≤ 255) (hs : 0 ≤ src ∧ src ≤ 4294967295) (hd : 0 ≤ dst ∧ dst ≤ 4294967295) (p1 : plainA src = true) (p2 : plainA dst = true) : Ans (madeP tos src dst i) := by
  have hm := madeP_msg (tos := tos) (src := src) (dst := dst) hi h5
  have e2 : (madeP tos src dst i).body.getD 0 0 = 0 := h0
  have hl := Ic.len i i.sum
  refine ⟨madeP_fine hi h5 ht hs hd, ?_, ?_, ?_⟩
  · unfold echoE
    rw [if_neg (not_not_intro hm), e2, if_pos (Or.inl (by decide))]
  · unfold aboutE
    rw [if_neg (not_not_intro hm), e2, if_pos (by decide)]
  · unfold faultE
    have hq : quietP (madeP tos src dst i) = false := by
      unfold quietP
      rw [show (madeP tos src dst i).src = src from rfl, show (madeP tos src dst i).dst = dst from rfl, p1, p2, e2, show (madeP tos src dst i).off = 0 from rfl, decide_eq_false (show ¬ (madeP tos src dst i).body.length = 0 from by show ¬ (i.bytes i.sum).length = 0; omega)]
      rfl
    rw [if_neg (by decide), if_neg (by decide), if_neg (not_not_intro (madeP_err h5)), hq, if_neg (by decide)]
theorem echoed_j4 {w w0 : World} (hg : Gl w) {q : Pk} (hq : Ans q) {g : Nat} {A : Option Addr} {n c : Nat} {B : Option Addr} {m d : Nat} {M : List (Nat × TypeId × List Value)} (H : Own w w0 ((g, 29, pb q A n c B m d) :: M)) (hp : PkAt w0 q A n c B m d) :
    weftlaw6_echoed.J4 g w0 (Yes w) := by
  unfold weftlaw6_echoed.J4; intros
  rw [weftlaw6_echoed.j4_eq]
  refine ld_pkt (H.bk 0 rfl) ?_
  refine call_of (Echo_c (hg.bel H.bel) hq.fine hp) ?_
  rintro e w1 ⟨k1, he⟩
  rw [hq.echo] at he
  obtain ⟨a1, n1, c1, a2, n2, c2, rfl, _, _, _⟩ := he
  replace H := H.call k1
  replace hp := hp.bel k1
  refine ⟨_, _, _, _, _, _, _, _, _, _, _, _, _, _, _, _, rfl, ?_⟩
  have T := Own.refl w1
  refine own_new (l := pb pz none 0 0 none 0 0) T fun g2 w2 T => ?_
  refine own_put 0 T rfl rfl (Nat.le_refl 11) fun w3 T => ?_
  replace H := H.call T.bel
  replace hp := hp.bel T.bel
  refine ld_pkt (H.bk 0 rfl) ?_
  refine call_of (About_c (hg.bel H.bel) hq.fine hp) ?_
  rintro e w4 ⟨k4, he⟩
  unfold RetAb at he
  rw [hq.about, if_neg (by decide)] at he
  subst he
  replace H := H.call k4
  replace hp := hp.bel k4
  refine ⟨_, _, _, _, _, _, _, _, _, _, _, _, _, _, _, _, rfl, ?_⟩
  have T := Own.refl w4
  refine own_new (l := hz) T fun g3 w5 T => ?_
  refine own_put 0 T rfl rfl (Nat.le_refl 10) fun w6 T => ?_
  replace H := H.call T.bel
  replace hp := hp.bel T.bel
  refine ld_pkt (H.bk 0 rfl) ?_
  refine call_of (Fault_c (hg.bel H.bel) hq.fine hp (t := 3) (k := 1) (x := 0) (src := 167838209) (by decide) (by decide) (by decide)) ?_
  rintro e w7 ⟨k7, he⟩
  rw [hq.fault] at he
  obtain ⟨b1, m1, d1, b2, m2, d2, rfl, _, _, _⟩ := he
  replace H := H.call k7
  refine ⟨_, _, _, _, _, _, _, _, _, _, _, _, _, _, _, _, rfl, ?_⟩
  refine own_new (l := pb pz none 0 0 none 0 0) H fun g4 w8 H => ?_
  refine own_put 0 H rfl rfl (Nat.le_refl 11) fun w9 H => ?_
  refine ifE (fun _ => ?_) (fun h => absurd rfl h)
  refine ifE (fun _ => ?_) (fun h => absurd rfl h)
  exact ⟨rfl, H.bel⟩
theorem echoed_j3 {w w0 : World} (hg : Gl w) {q h : Pk} (hq : Ans q) {g g1 : Nat} {A : Option Addr} {n c : Nat} {B : Option Addr} {m d : Nat} {k1 : Nat} {hl : List Value} {M : List (Nat × TypeId × List Value)} (H : Own w w0 ((g, 29, pb q A n c B m d) :: M)) (hp : PkAt w0 q A n c B m d)
    (hk : M[k1]? = some (g1, 27, hl)) (l0 : hl[0]? = some (.int .u8 q.tos)) (l7 : hl[7]? = some (.int .u32 q.dst)) (l8 : hl[8]? = some (.int .u32 q.src)) (e1 : q.proto = 1) (e2 : q.ttl = 64) (e3 : q.opts = []) :
    weftlaw6_echoed.J3 g1 g w0 (Yes w) := by
  unfold weftlaw6_echoed.J3; intros
  rw [weftlaw6_echoed.j3_eq]
  refine ⟨_, H.cell 0 7 rfl rfl, _, H.cell (k1 + 1) 8 (by simpa using hk) l8, ifN (fun h => absurd rfl h) (fun _ => ?_)⟩
  refine ⟨_, H.cell 0 8 rfl rfl, _, H.cell (k1 + 1) 7 (by simpa using hk) l7, ifN (fun h => absurd rfl h) (fun _ => ?_)⟩
  refine ⟨_, H.cell 0 6 rfl rfl, ifN (fun h => absurd e1 h) (fun _ => ?_)⟩
  refine ⟨_, H.cell 0 5 rfl rfl, ifN (fun h => absurd e2 h) (fun _ => ?_)⟩
  refine ⟨_, H.cell 0 0 rfl rfl, _, H.cell (k1 + 1) 0 (by simpa using hk) l0, ifN (fun h => absurd rfl h) (fun _ => ?_)⟩
  refine ⟨A, n, c, H.cell 0 9 rfl rfl, ?_⟩
  have hn : n = 0 := by have := hp.opts.len; rw [e3] at this; exact this.symm
  refine ifN (fun h => absurd (by omega) h) (fun _ => ?_)
  refine ⟨?_⟩
  apply echoed_j4 hg hq H hp
theorem echoed_t {w : World} (hg : Gl w) {h : Pk} (hf : h.Fine) {A : Option Addr} {n c : Nat} (hA : By w A n h.opts) (hc : n ≤ c) {y0 y1 rest : Int} {body : List Int} (hr : 0 ≤ rest ∧ rest ≤ 4294967295) (hb : Bytes body) (hlb : body.length ≤ 140737488351232) {B : Option Addr} {m d : Nat} (hB : By w B m body) :
    Calls Tryd.prog 21 #[.agg (pv h A n c).toArray, .agg (mv y0 y1 rest B m d).toArray] w (Yes w) := by
  refine weftlaw6_echoed.run ?_
  unfold weftlaw6_echoed.s
  have lb := hB.len
  have la := hA.len
  refine own_new (l := pv h A n c) (Own.refl w) fun g1 w1 H => ?_
  refine own_new (l := mv y0 y1 rest B m d) H fun g2 w2 H => ?_
  refine own_set 0 H rfl (Nat.lt_of_lt_of_le (by decide : 0 < 4) (Nat.le_refl 4)) fun w3 H => ?_
  refine own_set 0 H rfl (Nat.lt_of_lt_of_le (by decide : 1 < 4) (Nat.le_refl 4)) fun w4 H => ?_
  replace H : Own w w4 [(g2, 40, mv 8 0 rest B m d), (g1, 27, pv h A n c)] := H
  refine ld_msg (H.bk 0 rfl) ?_
  have hai : (askI rest body).Fine := ⟨by show 0 ≤ (8 : Int) ∧ (8 : Int) ≤ 255; decide, by show 0 ≤ (0 : Int) ∧ (0 : Int) ≤ 255; decide, hr, hb, hlb⟩
  refine call_of (BuildI_c (q := askI rest body) hai (hB.bel H.bel)) ?_
  rintro e w5 ⟨k5, he⟩
  by_cases h5 : body.length ≤ 65507
  · rw [if_pos (show (askI rest body).body.length ≤ 65507 from h5)] at he
    obtain ⟨D, dc, rfl, hD, hfD, hdc⟩ := he.by
    have o1 := H.old 1 rfl hfD
    replace H := H.call k5
    refine ⟨_, _, _, _, rfl, ?_⟩
    refine ifN (fun h => absurd rfl h) (fun _ => ?_)
    refine own_setB 1 H rfl (Nat.lt_of_lt_of_le (by decide : 6 < 10) (Nat.le_refl 10)) fun w6 H u6 => ?_
    replace hD := hD.but u6 o1
    refine own_setB 1 H rfl (Nat.lt_of_lt_of_le (by decide : 4 < 10) (Nat.le_refl 10)) fun w7 H u7 => ?_
    replace hD := hD.but u7 o1
    refine own_setB 1 H rfl (Nat.lt_of_lt_of_le (by decide : 3 < 10) (Nat.le_refl 10)) fun w8 H u8 => ?_
    replace hD := hD.but u8 o1
    replace H : Own w w8 [(g2, 40, mv 8 0 rest B m d), (g1, 27, pv (askP h (askI rest body)) A n c)] := H
    refine ld_head (H.bk 1 rfl) ?_
    refine own_newC (l := pb pz none 0 0 none 0 0) H fun g3 w9 H k9 hg3 => ?_
    have nD := hD.newer hg3
    replace hD := hD.bel k9
    refine own_putB 0 H rfl rfl (Nat.le_refl 11) fun w10 H u10 => ?_
    replace hD := hD.but1 u10 nD
    have ll := Ic.len (askI rest body) (askI rest body).sum
    generalize hN : ((askI rest body).bytes (askI rest body).sum).length = N at *
    replace H : Own w w10 [(g3, 29, pb (askP h (askI rest body)) A n c D N dc), (g2, 40, mv 8 0 rest B m d), (g1, 27, pv (askP h (askI rest body)) A n c)] := H
    have hP : PkAt w10 (askP h (askI rest body)) A n c D N dc := ⟨hA.bel H.bel, hD, hc, hdc⟩
    have hPf := askP_fine hf hr hb h5
    obtain ⟨ee, ep⟩ := echo_ask (h := h) hr hb h5
    refine ld_pkt (H.bk 0 rfl) ?_
    refine call_of (Build_e hPf hP) ?_
    rintro e w11 ⟨k11, C, ci, cj, rfl, _⟩
    replace H := H.call k11
    replace hP := hP.bel k11
    refine ⟨_, _, _, _, rfl, ?_⟩
    refine ld_pkt (H.bk 0 rfl) ?_
    refine call_of (Echo_c (hg.bel H.bel) hPf hP) ?_
    rintro e w12 ⟨k12, he⟩
    unfold RetE RetPk at he
    rw [ep] at he
    obtain ⟨qA, qn, qc, qB, qm, qd, rfl, hq, f1, f2⟩ := he
    replace H := H.call k12
    refine ⟨_, _, _, _, _, _, _, _, _, _, _, _, _, _, _, _, rfl, ?_⟩
    refine own_newC (l := pb pz none 0 0 none 0 0) H fun g4 w13 H k13 hg4 => ?_
    have n1 := hq.opts.newer hg4
    have n2 := hq.body.newer hg4
    replace hq := hq.bel k13
    refine own_putB 0 H rfl rfl (Nat.le_refl 11) fun w14 H u14 => ?_
    replace H : Own w w14 [(g4, 29, pb (if echoE (askP h (askI rest body)) = 0 then madeP h.tos h.dst h.src (ansI rest body) else pz) qA qn qc qB qm qd), (g3, 29, pb (askP h (askI rest body)) A n c D N dc), (g2, 40, mv 8 0 rest B m d), (g1, 27, pv (askP h (askI rest body)) A n c)] := H
    replace hq : PkAt w14 _ qA qn qc qB qm qd := ⟨hq.opts.but1 u14 n1, hq.body.but1 u14 n2, hq.co, hq.cb⟩
    refine ifN (fun h1 => ?_) (fun h1 => ?_)
    · rw [if_pos h1] at ee
      rw [ee] at H hq ⊢
      rw [if_neg h1] at H hq
      refine ifE (fun _ => ?_) (fun h => absurd rfl h)
      refine ld_pkt (H.bk 0 rfl) ?_
      refine call_of (packets_pz hq) ?_
      rintro e w15 ⟨rfl, k15⟩
      exact ⟨_, rfl, rfl, H.bel.trans k15⟩
    rw [if_neg (not_not_intro h1)] at ee
    have last : ∀ (y : Bool) (wa : World), Bel w14 wa → y = (!plainA h.src || !plainA h.dst) → weftlaw6_echoed.J1 g1 g2 g4 (echoE (askP h (askI rest body))) y wa (Yes w) := by
      intro y wa ka hy
      unfold weftlaw6_echoed.J1; intros
      rw [weftlaw6_echoed.j1_eq]
      replace H := H.call ka
      replace hq := hq.bel ka
      refine ifB (fun e => ?_) (fun e => ?_)
      · have e61 : echoE (askP h (askI rest body)) = 61 := by
          rw [ee]
          rw [hy] at e
          cases q1 : plainA h.src
          · rfl
          · rw [q1] at e
            rw [if_neg (by decide)]
            cases q2 : plainA h.dst
            · rfl
            · rw [q2] at e; cases e
        rw [e61] at H hq ⊢
        rw [if_neg (by decide)] at H hq
        refine ifE (fun _ => ?_) (fun h => absurd rfl h)
        refine ld_pkt (H.bk 0 rfl) ?_
        refine call_of (packets_pz hq) ?_
        rintro e w15 ⟨rfl, k15⟩
        exact ⟨_, rfl, rfl, H.bel.trans k15⟩
      · rw [hy] at e
        have p1 : plainA h.src = true := by cases q1 : plainA h.src; rw [q1] at e; cases e; rfl
        have p2 : plainA h.dst = true := by cases q2 : plainA h.dst; rw [p1, q2] at e; cases e; rfl
        have e0 : echoE (askP h (askI rest body)) = 0 := by rw [ee, p1, p2]; rfl
        rw [e0] at H hq ⊢
        rw [if_pos rfl] at H hq
        have hi := ansI_fine hr hb h5
        have hans : Ans (madeP h.tos h.dst h.src (ansI rest body)) := ans_of hi h5 rfl hf.tos hf.dst hf.src p2 p1
        refine ⟨?_⟩
        rw [weftlaw6_echoed.j2_eq]
        refine ⟨qB, qm, qd, H.cell 0 10 rfl rfl, ?_⟩
        refine call_of (Parse_c hq.body hans.fine.body hq.cb) ?_
        rintro e w15 ⟨k15, he⟩
        rw [if_pos (show icBad (madeP h.tos h.dst h.src (ansI rest body)).body = 0 from icBad_own hi h5)] at he
        obtain ⟨E, ec, rfl, hE, _, _⟩ := he
        replace H := H.call k15
        replace hq := hq.bel k15
        refine ⟨_, _, _, _, _, _, _, rfl, ?_⟩
        refine own_newC (l := mv 0 0 0 none 0 0) H fun g5 w16 H k16 hg5 => ?_
        have n3 := hE.newer hg5
        have n4 := hq.opts.newer hg5
        have n5 := hq.body.newer hg5
        replace hE := hE.bel k16
        replace hq := hq.bel k16
        refine own_putB 0 H rfl rfl (Nat.le_refl 4) fun w17 H u17 => ?_
        replace hE := hE.but1 u17 n3
        replace hq : PkAt w17 _ qA qn qc qB qm qd := ⟨hq.opts.but1 u17 n4, hq.body.but1 u17 n5, hq.co, hq.cb⟩
        refine ifN (fun h => absurd rfl h) (fun _ => ?_)
        refine ifN (fun h => absurd rfl h) (fun _ => ?_)
        refine ⟨_, H.cell 0 0 rfl rfl, ifN (fun h => absurd rfl h) (fun _ => ?_)⟩
        refine ⟨_, H.cell 0 1 rfl rfl, ifN (fun h => absurd rfl h) (fun _ => ?_)⟩
        refine ⟨_, H.cell 0 2 rfl rfl, _, H.cell 3 2 rfl rfl, ifN (fun h => absurd (lg_own hi _) h) (fun _ => ?_)⟩
        refine ⟨E, qm - 8, ec, H.cell 0 3 rfl rfl, B, m, d, H.cell 3 3 rfl rfl, ?_⟩
        have hE2 : By w17 E (qm - 8) body := hE
        refine call_of (same_t hE2 (hB.bel H.bel) (by have := hE2.len; omega)) ?_
        rintro e w18 ⟨rfl, k18⟩
        replace H := H.call k18
        replace hq := hq.bel k18
        refine ⟨_, rfl, ifNot (fun h => by cases h) (fun _ => ?_)⟩
        refine ⟨?_⟩
        apply echoed_j3 (h := h) (k1 := 2) hg hans H.tail hq rfl rfl rfl rfl rfl rfl rfl
    refine ⟨_, H.cell 3 7 rfl rfl, ?_⟩
    refine call_of (lawplain_c w14 _) ?_
    rintro e w15 ⟨rfl, k15⟩
    refine ⟨_, rfl, ?_⟩
    refine ifNot (fun h3 => ?_) (fun h3 => ?_)
    · refine ⟨?_⟩
      apply last true w15 k15
      rw [show plainA h.src = false from h3]; rfl
    have H15 := H.call k15
    refine ⟨_, H15.cell 3 8 rfl rfl, ?_⟩
    refine call_of (lawplain_c w15 _) ?_
    rintro e w16 ⟨rfl, k16⟩
    refine ⟨_, rfl, ?_⟩
    refine ⟨?_⟩
    apply last _ w16 (Bel.trans k15 k16)
    rw [show plainA h.src = true from h3]; rfl
  · rw [if_neg (show ¬ (askI rest body).body.length ≤ 65507 from h5)] at he
    subst he
    refine ⟨_, _, _, _, rfl, ?_⟩
    refine ifN (fun _ => ?_) (fun h => by cases h)
    exact ⟨rfl, (H.call k5).bel⟩
theorem IcmpEchoBack_t {w : World} (hg : Gl w) {h : Pk} (hf : h.Fine) {A : Option Addr} {n c : Nat} (hA : By w A n h.opts) (hc : n ≤ c) {y0 y1 rest : Int} {body : List Int} (hr : 0 ≤ rest ∧ rest ≤ 4294967295) (hb : Bytes body) (hlb : body.length ≤ 140737488351232) {B : Option Addr} {m d : Nat} (hB : By w B m body) :
    Calls Tryd.prog 12 #[.agg (pv h A n c).toArray, .agg (mv y0 y1 rest B m d).toArray] w (Yes w) := by
  refine weftlaw6_IcmpEchoBack.run ?_
  unfold weftlaw6_IcmpEchoBack.s
  refine own_new (l := pv h A n c) (Own.refl w) fun g1 w1 H => ?_
  refine own_new (l := mv y0 y1 rest B m d) H fun g2 w2 H => ?_
  refine call_of (small_c w2) ?_
  rintro e w3 ⟨k3, sA, sc, sB, sd, rfl, hs6, _, _⟩
  replace H := H.call k3
  refine ⟨_, _, _, _, _, _, _, _, _, _, _, _, _, _, _, rfl, ?_⟩
  refine own_newB (l := bv [1]) H fun g3 w4 H k4 => ?_
  have hs := hs6.bel k4
  refine call_of (echoed_t (hg.bel H.bel) small6_fine hs.opts hs.co (y0 := 0) (y1 := 0) (rest := 5) (body := [1]) (by decide) (Bytes.cons (by decide) Bytes.nil) (by decide) (H.bk 0 rfl).by) ?_
  rintro e w5 ⟨rfl, k5⟩
  replace H := (H.call k5).tail
  refine ⟨_, rfl, ?_⟩
  refine ifB (fun _ => ?_) (fun h => by cases h)
  refine ld_head (H.bk 1 rfl) ?_
  refine ld_msg (H.bk 0 rfl) ?_
  refine call_of (echoed_t (hg.bel H.bel) hf (hA.bel H.bel) hc hr hb hlb (hB.bel H.bel)) ?_
  rintro e w6 ⟨rfl, k6⟩
  exact ⟨_, rfl, rfl, H.bel.trans k6⟩
end Go.Proofs.YtfjbpeadhaekbaaDoorS
