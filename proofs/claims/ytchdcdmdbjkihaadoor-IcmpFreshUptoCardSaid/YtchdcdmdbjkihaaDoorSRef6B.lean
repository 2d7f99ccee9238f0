/- What packet, message, Echo, Fault and About of package weftref6 answer: the same as their doubles in package icmp.
   Conditions: bytes are 0 to 255; lists are no longer than memory lets. -/
import Derived.Test.YtchdcdmdbjkihaaDoorSRef6
namespace Go.Proofs.YtchdcdmdbjkihaaDoorS
open Go Go.RowKit Go.Proofs Go.Proofs.YtchdcdmdbjkihaaDoorX
set_option maxRecDepth 100000
set_option linter.unusedVariables false
set_option linter.unusedSimpArgs false

theorem packet6_c {w : World} {q : Ic} (h : q.Fine) (h5 : q.body.length ≤ 65507) {A : Option Addr} {n c : Nat} (ha : By w A n q.body) (tos src dst : Int) :
    Calls Tryd.prog 72 #[.int .u8 tos, .int .u32 src, .int .u32 dst, .agg (mv q.typ q.code q.rest A n c).toArray] w (fun e w' => Bel w w' ∧ RetPk w (madeP tos src dst q) 0 e w') := by
  refine weftref6_packet.run ?_
  unfold weftref6_packet.s
  refine own_new (l := mv q.typ q.code q.rest A n c) (Own.refl w) fun g1 w1 H => ?_
  refine own_new (l := pb pz none 0 0 none 0 0) H fun g2 w2 H => ?_
  refine own_newB (l := pb pz none 0 0 none 0 0) H fun g3 w3 H k3 => ?_
  refine ld_msg (H.bk 2 rfl) ?_
  refine call_of (Build6_c h (ha.bel H.bel)) ?_
  rintro e w4 ⟨k4, he⟩
  rw [if_pos h5] at he
  obtain ⟨B, cap, rfl, hb, hf, hcap⟩ := he
  have ho := H.old 1 rfl hf
  have hf0 := hf.le H.bel
  replace H := H.call k4
  refine ⟨_, _, _, _, rfl, ?_⟩
  refine ifN (fun h => absurd rfl h) (fun _ => ?_)
  refine put_pkt 1 H rfl rfl fun w5 H u => ?_
  exact ⟨H.bel, none, 0, 0, B, _, cap, rfl, ⟨By.nil _ _, hb.but u ho, Nat.le_refl _, hcap⟩, Fre.nil w, hf0⟩
def RetM6 (w : World) (p : Pk) (e : Ending) (w' : World) : Prop := Bel w w' ∧ RetMsg w p e w'
theorem RetM6.no {w w' : World} {p : Pk} {k : Int} (hk : k ≠ 0) (he : msgE p = k) (hb : Bel w w') : RetM6 w p (.returned (.tuple #[.agg (mv 0 0 0 none 0 0).toArray, .int .i64 k])) w' := ⟨hb, by unfold RetMsg; rw [he, if_neg hk]⟩
theorem message6_c {w : World} {p : Pk} (h : p.Fine) {A : Option Addr} {n c : Nat} {B : Option Addr} {m d : Nat} (hp : PkAt w p A n c B m d) :
    Calls Tryd.prog 85 #[.agg (pb p A n c B m d).toArray] w (RetM6 w p) := by
  refine weftref6_message.run ?_
  unfold weftref6_message.s
  have lb := hp.body.len
  refine own_new (l := pb p A n c B m d) (Own.refl w) fun g1 w1 H => ?_
  refine own_new (l := mv 0 0 0 none 0 0) H fun g2 w2 H => ?_
  refine own_new (l := mv 0 0 0 none 0 0) H fun g3 w3 H => ?_
  refine ld_pkt (H.bk 2 rfl) ?_
  refine call_of (Build3_c h (hp.bel H.bel)) ?_
  rintro e w4 ⟨k4, C, i, j, rfl, _⟩
  replace H := H.call k4
  refine ⟨_, _, _, _, rfl, ?_⟩
  refine ifN (fun h1 => ?_) (fun h1 => ?_)
  · exact zero_msg 0 1 H rfl rfl rfl fun w5 k5 => RetM6.no h1 (by unfold msgE; rw [if_pos h1]) k5
  have bad : ∀ b : Bool, b = true → (p.proto ≠ 1 ∨ p.off > 0 ∨ p.mf = true) → weftref6_message.J1 g1 g2 g3 b w4 (RetM6 w p) := by
    intro b hb hx
    unfold weftref6_message.J1; intros
    rw [weftref6_message.j1_eq]
    refine ifB (fun _ => ?_) (fun hf => by rw [hb] at hf; cases hf)
    refine zero_msg 0 1 H rfl rfl rfl fun w5 k5 => RetM6.no (by decide) ?_ k5
    unfold msgE
    rw [if_neg (not_not_intro h1)]
    rcases hx with hx | hx | hx
    · rw [if_pos hx]
    · by_cases h2 : p.proto ≠ 1
      · rw [if_pos h2]
      · rw [if_neg h2, if_pos hx]
    · by_cases h2 : p.proto ≠ 1
      · rw [if_pos h2]
      · rw [if_neg h2]
        by_cases h3 : p.off > 0
        · rw [if_pos h3]
        · rw [if_neg h3, if_pos hx]
  refine ⟨_, H.cell 2 6 rfl rfl, ?_⟩
  refine ifN (fun h2 => ?_) (fun h2 => ?_)
  · have k := bad true rfl (.inl h2)
    exact ⟨by with_reducible apply k⟩
  refine ⟨_, H.cell 2 4 rfl rfl, ?_⟩
  refine ifD (fun h3 => ?_) (fun h3 => ?_)
  · have k := bad true rfl (.inr (.inl h3))
    exact ⟨by with_reducible apply k⟩
  refine ⟨_, H.cell 2 3 rfl rfl, ?_⟩
  by_cases h4 : p.mf = true
  · have k := bad p.mf h4 (.inr (.inr h4))
    exact ⟨by with_reducible apply k⟩
  refine ⟨?_⟩
  rw [weftref6_message.j1_eq]
  refine ifB (fun hf => absurd hf h4) (fun _ => ?_)
  refine ⟨?_⟩
  rw [weftref6_message.j2_eq]
  have em : msgE p = icBad p.body := by unfold msgE; rw [if_neg (not_not_intro h1), if_neg (not_not_intro h2), if_neg h3, if_neg h4]
  refine ⟨B, m, d, H.cell 2 10 rfl rfl, ?_⟩
  refine call_of (Parse6_c (hp.body.bel H.bel) h.body hp.cb) ?_
  rintro e w5 ⟨k5, he⟩
  by_cases h5 : icBad p.body = 0
  · rw [if_pos h5] at he
    obtain ⟨A', c', rfl, y, l1, r1⟩ := he
    have o1 := H.old 1 rfl r1
    have kw := H.bel
    replace H := H.call k5
    refine ⟨_, _, _, _, _, _, _, rfl, ?_⟩
    refine put_msg 1 H rfl rfl fun w6 H u => ?_
    refine ⟨H.bel, ?_⟩
    unfold RetMsg
    rw [em, if_pos h5, lb]
    exact ⟨A', c', rfl, y.but u o1, l1, r1.le kw⟩
  · rw [if_neg h5] at he
    subst he
    replace H := H.call k5
    refine ⟨_, _, _, _, _, _, _, rfl, ?_⟩
    refine put_msg 1 H rfl rfl fun w6 H u => ?_
    exact RetM6.no (w := w) h5 em H.bel
def RetE6 (w : World) (k : Int) (q : Pk) (e : Ending) (w' : World) : Prop := Bel w w' ∧ RetE w k q e w'
theorem Echo6_c {w : World} {p : Pk} (h : p.Fine) {A : Option Addr} {n c : Nat} {B : Option Addr} {m d : Nat} (hp : PkAt w p A n c B m d) :
    Calls Tryd.prog 47 #[.agg (pb p A n c B m d).toArray] w (RetE6 w (echoE p) (echoP p)) := by
  refine weftref6_Echo.run ?_
  unfold weftref6_Echo.s
  have lb := hp.body.len
  refine own_new (l := pb p A n c B m d) (Own.refl w) fun g1 w1 H => ?_
  refine own_new (l := pb pz none 0 0 none 0 0) H fun g2 w2 H => ?_
  refine own_new (l := pb pz none 0 0 none 0 0) H fun g3 w3 H => ?_
  refine ld_pkt (H.bk 2 rfl) ?_
  refine call_of (message6_c h (hp.bel H.bel)) ?_
  rintro e w4 ⟨k4, he⟩
  unfold RetMsg at he
  by_cases h1 : msgE p ≠ 0
  · rw [if_neg h1] at he
    subst he
    replace H := H.call k4
    have ee : echoE p = msgE p := by unfold echoE; rw [if_pos h1]
    refine ⟨_, _, _, _, _, _, _, rfl, ?_⟩
    refine own_new (l := mv 0 0 0 none 0 0) H fun g5 w5 H => ?_
    refine own_put 0 H rfl rfl (by decide) fun w6 H => ?_
    refine ifN (fun _ => ?_) (fun hx => absurd hx h1)
    rw [ee]
    exact zero_out 1 2 H rfl rfl rfl fun w7 k7 => ⟨k7, RetE.no _ h1⟩
  replace h1 : msgE p = 0 := Decidable.of_not_not h1
  rw [if_pos h1] at he
  obtain ⟨C, j, rfl, y, l1, r1⟩ := he
  have o1 := H.old 1 rfl r1
  have kw := H.bel
  replace H := H.call k4
  refine ⟨_, _, _, _, _, _, _, rfl, ?_⟩
  refine own_newC (l := mv 0 0 0 none 0 0) H fun g5 w5 H k5 hg => ?_
  have z := y.newer hg
  replace y := y.bel k5
  refine own_putB 0 H rfl rfl (by decide) fun w6 H u6 => ?_
  replace y := y.but1 u6 z
  replace H : Own w w6 [(g5, 33, mv (p.body.getD 0 0) (p.body.getD 1 0) (lg p.body 4) C (p.body.length - 8) j), (g3, 39, pb pz none 0 0 none 0 0), (g2, 39, pb pz none 0 0 none 0 0), (g1, 39, pb p A n c B m d)] := H
  refine ifN (fun hx => absurd rfl hx) (fun _ => ?_)
  have bad1 : (p.body.getD 0 0 ≠ 8 ∨ p.body.getD 1 0 ≠ 0) → ∀ b : Bool, b = true → weftref6_Echo.J1 g1 g2 g3 g5 b w6 (RetE6 w (echoE p) (echoP p)) := by
    intro hx b hb
    have ee : echoE p = 62 := by unfold echoE; rw [if_neg (not_not_intro h1), if_pos hx]
    unfold weftref6_Echo.J1; intros
    rw [weftref6_Echo.j1_eq, ee]
    refine ifB (fun _ => ?_) (fun hf => by rw [hb] at hf; cases hf)
    exact zero_out 1 2 H rfl rfl rfl fun w7 k7 => ⟨k7, RetE.no _ (by decide)⟩
  refine ⟨_, H.cell 0 0 rfl rfl, ?_⟩
  refine ifN (fun h2 => ?_) (fun h2 => ?_)
  · have k := bad1 (.inl h2) true rfl
    exact ⟨by with_reducible apply k⟩
  refine ⟨_, H.cell 0 1 rfl rfl, ?_⟩
  by_cases h3 : p.body.getD 1 0 ≠ 0
  · have k := bad1 (.inr h3) (p.body.getD 1 0 != 0) (by simpa using h3)
    exact ⟨by with_reducible apply k⟩
  refine ⟨?_⟩
  rw [weftref6_Echo.j1_eq]
  refine ifN (fun hf => absurd hf h3) (fun _ => ?_)
  refine ⟨?_⟩
  rw [weftref6_Echo.j2_eq]
  have h23 : ¬ (p.body.getD 0 0 ≠ 8 ∨ p.body.getD 1 0 ≠ 0) := fun hx => hx.elim (fun h => h h2) h3
  refine ⟨_, H.cell 3 7 rfl rfl, ?_⟩
  refine call_of (Plain6_c _ h.src) ?_
  rintro e w7 ⟨rfl, k7⟩
  replace H := H.call k7
  replace y := y.bel k7
  refine ⟨_, rfl, ?_⟩
  have bad2 : ∀ {wa : World} (H : Own w wa [(g5, 33, mv (p.body.getD 0 0) (p.body.getD 1 0) (lg p.body 4) C (p.body.length - 8) j), (g3, 39, pb pz none 0 0 none 0 0), (g2, 39, pb pz none 0 0 none 0 0), (g1, 39, pb p A n c B m d)]) (b : Bool), b = true → echoE p = 61 → weftref6_Echo.J3 g1 g2 g3 g5 b wa (RetE6 w (echoE p) (echoP p)) := by
    intro wa H b hb ee
    unfold weftref6_Echo.J3; intros
    rw [weftref6_Echo.j3_eq, ee]
    refine ifB (fun _ => ?_) (fun hf => by rw [hb] at hf; cases hf)
    exact zero_out 1 2 H rfl rfl rfl fun w7 k7 => ⟨k7, RetE.no _ (by decide)⟩
  refine ifNot (fun h4 => ?_) (fun h4 => ?_)
  · have k := bad2 H true rfl (by unfold echoE; rw [if_neg (not_not_intro h1), if_neg h23, if_pos h4])
    exact ⟨by with_reducible apply k⟩
  refine ⟨_, H.cell 3 8 rfl rfl, ?_⟩
  refine call_of (Plain6_c _ h.dst) ?_
  rintro e w8 ⟨rfl, k8⟩
  replace H := H.call k8
  replace y := y.bel k8
  refine ⟨_, rfl, ?_⟩
  by_cases h5 : plainA p.dst = false
  · have k := bad2 H (!plainA p.dst) (by rw [h5]; rfl) (by unfold echoE; rw [if_neg (not_not_intro h1), if_neg h23, if_neg (by rw [h4]; decide), if_pos h5])
    exact ⟨by with_reducible apply k⟩
  refine ⟨?_⟩
  rw [weftref6_Echo.j3_eq]
  refine ifNot (fun hf => absurd hf h5) (fun _ => ?_)
  refine ⟨?_⟩
  rw [weftref6_Echo.j4_eq]
  have ee : echoE p = 0 := by unfold echoE; rw [if_neg (not_not_intro h1), if_neg h23, if_neg (by rw [h4]; decide), if_neg h5]
  obtain ⟨q1, q2, q3⟩ := icBad_zero (msgE_zero h1).2.2.2.2
  refine own_setB 0 H rfl (Nat.lt_of_lt_of_le (by decide : 0 < 4) (Nat.le_refl 4)) fun w9 H u9 => ?_
  have o9 : ∀ a, C = some a → a.block ≠ g5 ∨ p.body.length - 8 = 0 := fun a ea => by
    by_cases hz : p.body.length - 8 = 0
    · exact .inr hz
    · exact .inl (z (by omega) a ea)
  replace y := y.but1 u9 (fun hn a ea => (o9 a ea).resolve_right (by omega))
  replace H : Own w w9 [(g5, 33, mv 0 (p.body.getD 1 0) (lg p.body 4) C (p.body.length - 8) j), (g3, 39, pb pz none 0 0 none 0 0), (g2, 39, pb pz none 0 0 none 0 0), (g1, 39, pb p A n c B m d)] := H
  rw [Decidable.of_not_not h3] at H
  refine ⟨_, H.cell 3 0 rfl rfl, _, H.cell 3 8 rfl rfl, _, H.cell 3 7 rfl rfl, ?_⟩
  refine ld_msg (H.bk 0 rfl) ?_
  refine call_of (packet6_c (q := echoI p) (echoI_fine h) (by show (p.body.drop 8).length ≤ _; rw [List.length_drop]; omega) (A := C) (n := p.body.length - 8) (c := j) y p.tos p.dst p.src) ?_
  rintro e w10 ⟨k10, A1, n1, c1, A2, n2, c2, rfl, yp, f1, f2⟩
  have x1 := H.old 2 rfl f1
  have x2 := H.old 2 rfl f2
  have kw9 := H.bel
  replace H := H.call k10
  refine ⟨_, _, _, _, _, _, _, _, _, _, _, _, _, _, _, _, rfl, ?_⟩
  refine put_pkt 2 H rfl rfl fun w11 H u11 => ?_
  refine ⟨H.bel, ?_⟩
  unfold RetE
  rw [ee, if_pos rfl]
  exact ⟨A1, n1, c1, A2, n2, c2, rfl, yp.but u11 x1 x2, f1.le kw9, f2.le kw9⟩
theorem Fault6_c {w : World} {p : Pk} (h : p.Fine) {A : Option Addr} {n c : Nat} {B : Option Addr} {m d : Nat} (hp : PkAt w p A n c B m d) {t k x src : Int} (ht : 0 ≤ t ∧ t ≤ 255) (hk : 0 ≤ k ∧ k ≤ 255) (hs : 0 ≤ src ∧ src ≤ 4294967295) :
    Calls Tryd.prog 34 #[.agg (pb p A n c B m d).toArray, .int .u8 t, .int .u8 k, .int .i64 x, .int .u32 src] w (RetE6 w (faultE p t k x src) (faultP p t k x src)) := by
  refine weftref6_Fault.run ?_
  unfold weftref6_Fault.s
  have lb := hp.body.len
  have lo := hp.opts.len
  refine own_new (l := pb p A n c B m d) (Own.refl w) fun g1 w1 H => ?_
  refine own_new (l := pb pz none 0 0 none 0 0) H fun g2 w2 H => ?_
  refine own_new (l := pb pz none 0 0 none 0 0) H fun g3 w3 H => ?_
  refine call_of (may6_c w3 ht.1 hk.1) ?_
  rintro e w4 ⟨rfl, k4⟩
  replace H := H.call k4
  refine ⟨_, rfl, ?_⟩
  have bad1 : ∀ {wa : World} (H : Own w wa [(g3, 39, pb pz none 0 0 none 0 0), (g2, 39, pb pz none 0 0 none 0 0), (g1, 39, pb p A n c B m d)]) (b : Bool), b = true → faultE p t k x src = 1 → weftref6_Fault.J1 t k x src g1 g2 g3 b wa (RetE6 w (faultE p t k x src) (faultP p t k x src)) := by
    intro wa H b hb ee
    unfold weftref6_Fault.J1; intros
    rw [weftref6_Fault.j1_eq, ee]
    refine ifB (fun _ => ?_) (fun hf => by rw [hb] at hf; cases hf)
    exact zero_out 0 1 H rfl rfl rfl fun w7 k7 => ⟨k7, RetE.no _ (by decide)⟩
  refine ifNot (fun h1 => ?_) (fun h1 => ?_)
  · have kk := bad1 H true rfl (by unfold faultE; rw [if_pos h1])
    exact ⟨by with_reducible apply kk⟩
  refine call_of (Plain6_c _ hs) ?_
  rintro e w5 ⟨rfl, k5⟩
  replace H := H.call k5
  refine ⟨_, rfl, ?_⟩
  by_cases h2 : plainA src = false
  · have kk := bad1 H (!plainA src) (by rw [h2]; rfl) (by unfold faultE; rw [if_neg (by rw [h1]; decide), if_pos h2])
    exact ⟨by with_reducible apply kk⟩
  refine ⟨?_⟩
  rw [weftref6_Fault.j1_eq]
  refine ifNot (fun hf => absurd hf h2) (fun _ => ?_)
  refine ⟨?_⟩
  rw [weftref6_Fault.j2_eq]
  have e12 : ∀ z : Int, (if mayB t k x = false then (1 : Int) else if plainA src = false then 1 else z) = z := fun z => by rw [if_neg (by rw [h1]; decide), if_neg h2]
  refine ld_pkt (H.bk 2 rfl) ?_
  refine call_of (Build3_c h (hp.bel H.bel)) ?_
  rintro e w6 ⟨k6, C, i, j, rfl, hC, _⟩
  have kw5 := H.bel
  replace H := H.call k6
  refine ⟨_, _, _, _, rfl, ?_⟩
  refine ifN (fun h3 => ?_) (fun h3 => ?_)
  · have ee : faultE p t k x src = p.err := by unfold faultE; rw [e12, if_pos h3]
    rw [ee]
    exact zero_out 0 1 H rfl rfl rfl fun w7 k7 => ⟨k7, RetE.no _ h3⟩
  obtain ⟨hi, y, hij, r1⟩ := hC h3
  refine ld_pkt (H.bk 2 rfl) ?_
  refine call_of (quiet6_c h (hp.bel H.bel)) ?_
  rintro e w7 ⟨rfl, k7⟩
  replace H := H.call k7
  replace y := y.bel k7
  refine ⟨_, rfl, ?_⟩
  refine ifB (fun h4 => ?_) (fun h4 => ?_)
  · have ee : faultE p t k x src = 61 := by unfold faultE; rw [e12, if_neg (not_not_intro h3), if_pos h4]
    rw [ee]
    exact zero_out 0 1 H rfl rfl rfl fun w8 k8 => ⟨k8, RetE.no _ (by decide)⟩
  have ee : faultE p t k x src = 0 := by unfold faultE; rw [e12, if_neg (not_not_intro h3), if_neg (by rw [h4]; decide)]
  have ho := oOK_len (Pk.err_zero h3).1
  have htl := tl_le h3
  have hr := mayB_range h1
  have fl := faultI_len h3 t k x
  have ff := faultI_fine h h3 ht.1 hk.1 h1
  have etl : p.tl = 20 + p.opts.length + p.body.length := rfl
  refine ⟨A, n, c, H.cell 2 9 rfl rfl, ?_⟩
  refine let_as (20 + (n : Int)) (w64 (by omega) (by omega)) ?_
  refine let_as (20 + (n : Int) + 8) (w64 (by omega) (by omega)) ?_
  have j4 : ∀ N : Int, N = ((20 + p.opts.length + min 8 p.body.length : Nat) : Int) → weftref6_Fault.J4 t k src g1 g2 C i j N (faultR t x) w7 (RetE6 w (faultE p t k x src) (faultP p t k x src)) := by
    intro N hN
    subst hN
    unfold weftref6_Fault.J4; intros
    rw [weftref6_Fault.j4_eq]
    refine draws (fun w' => ∃ l, Own w w' [(g3, 39, pb pz none 0 0 none 0 0), (g2, 39, l), (g1, 39, pb p A n c B m d)]) ⟨_, H.drew⟩ fun w8 e8 => ?_
    replace H := H.drew
    have k8 : Bel w7 w8 := by rw [e8]; exact (Bel.refl w7).drew
    rw [← e8] at H
    refine ⟨_, fun w' ⟨l, hw⟩ => hw.cell 2 7 rfl rfl, ?_⟩
    have hrr := ff.rest
    refine let_as (faultR t x) (w32 hrr.1 hrr.2) ?_
    refine ⟨⟨by omega, by omega⟩, ?_⟩
    rw [Int.toNat_natCast]
    have yb : By w8 C (20 + p.opts.length + min 8 p.body.length) (faultI p t k x).body := (y.bel k8).take (by omega)
    refine call_of (packet6_c (q := faultI p t k x) ff (by omega) (c := j) yb 0 src p.src) ?_
    rintro e w9 ⟨k9, A1, n1, c1, A2, n2, c2, rfl, yp, f1, f2⟩
    have x1 := H.old 1 rfl f1
    have x2 := H.old 1 rfl f2
    have kw9 := H.bel
    replace H := H.call k9
    refine ⟨_, _, _, _, _, _, _, _, _, _, _, _, _, _, _, _, rfl, ⟨_, H⟩, ?_⟩
    refine own_putB 1 H rfl rfl (by decide) fun w10 H u10 => ?_
    refine ⟨⟨_, H⟩, ?_⟩
    replace H : Own w w10 [(g3, 39, pb pz none 0 0 none 0 0), (g2, 39, pb (faultP p t k x src) A1 n1 c1 A2 n2 c2), (g1, 39, pb p A n c B m d)] := H
    refine ld_pkt (H.bk 1 rfl) ?_
    refine ⟨H.bel, ?_⟩
    unfold RetE
    rw [ee, if_pos rfl]
    exact ⟨A1, n1, c1, A2, n2, c2, rfl, yp.but u10 x1 x2, f1.le kw9, f2.le kw9⟩
  have j3 : ∀ N : Int, N = ((20 + p.opts.length + min 8 p.body.length : Nat) : Int) → weftref6_Fault.J3 t k x src g1 g2 C i j N w7 (RetE6 w (faultE p t k x src) (faultP p t k x src)) := by
    intro N hN
    have kk := j4 N hN
    unfold weftref6_Fault.J3; intros
    rw [weftref6_Fault.j3_eq]
    refine ifE (fun h5 => ?_) (fun h5 => ?_)
    · have hx := hr.2.2.2.2 h5
      have er : faultR t x = x * 16777216 := by unfold faultR; rw [if_pos h5]
      refine let_as (x * 16777216) (w64 (by omega) (by omega)) ?_
      rw [er] at kk
      exact ⟨by with_reducible apply kk⟩
    · have er : faultR t x = x := by unfold faultR; rw [if_neg h5]
      rw [er] at kk
      exact ⟨by with_reducible apply kk⟩
  refine ifD (fun h5 => ?_) (fun h5 => ?_)
  · have kk := j3 (i : Int) (by omega)
    exact ⟨by with_reducible apply kk⟩
  · have kk := j3 (20 + (n : Int) + 8) (by omega)
    exact ⟨by with_reducible apply kk⟩
def RetA6 (w : World) (p : Pk) (e : Ending) (w' : World) : Prop := Bel w w' ∧ RetAb w p e w'
theorem About6_c {w : World} {p : Pk} (h : p.Fine) {A : Option Addr} {n c : Nat} {B : Option Addr} {m d : Nat} (hp : PkAt w p A n c B m d) :
    Calls Tryd.prog 48 #[.agg (pb p A n c B m d).toArray] w (RetA6 w p) := by
  refine weftref6_About.run ?_
  unfold weftref6_About.s
  have lb := hp.body.len
  have no : ∀ {w' : World} {k : Int}, k ≠ 0 → aboutE p = k → Bel w w' → RetA6 w p (.returned (.tuple #[.agg hz.toArray, .slice none 0 0, .int .i64 k])) w' := fun hk he hb => ⟨hb, by unfold RetAb; rw [he, if_neg hk]⟩
  refine own_new (l := pb p A n c B m d) (Own.refl w) fun g1 w1 H => ?_
  refine own_new (l := hz) H fun g2 w2 H => ?_
  refine own_new (l := hz) H fun g3 w3 H => ?_
  refine ld_pkt (H.bk 2 rfl) ?_
  refine call_of (message6_c h (hp.bel H.bel)) ?_
  rintro e w4 ⟨k4, he⟩
  unfold RetMsg at he
  by_cases h1 : msgE p ≠ 0
  · rw [if_neg h1] at he
    subst he
    replace H := H.call k4
    refine ⟨_, _, _, _, _, _, _, rfl, ?_⟩
    refine own_new (l := mv 0 0 0 none 0 0) H fun g5 w5 H => ?_
    refine own_put 0 H rfl rfl (by decide) fun w6 H => ?_
    refine ifN (fun _ => ?_) (fun hx => absurd hx h1)
    exact zero_head 1 2 H rfl rfl rfl fun w7 k7 => no h1 (by unfold aboutE; rw [if_pos h1]) k7
  replace h1 : msgE p = 0 := Decidable.of_not_not h1
  rw [if_pos h1] at he
  obtain ⟨C, j, rfl, y, l1, r1⟩ := he
  replace H := H.call k4
  refine ⟨_, _, _, _, _, _, _, rfl, ?_⟩
  refine own_newC (l := mv 0 0 0 none 0 0) H fun g5 w5 H k5 hg => ?_
  have z := y.newer hg
  replace y := y.bel k5
  refine own_putB 0 H rfl rfl (by decide) fun w6 H u6 => ?_
  replace y := y.but1 u6 z
  replace H : Own w w6 [(g5, 33, mv (p.body.getD 0 0) (p.body.getD 1 0) (lg p.body 4) C (p.body.length - 8) j), (g3, 37, hz), (g2, 37, hz), (g1, 39, pb p A n c B m d)] := H
  refine ifN (fun hx => absurd rfl hx) (fun _ => ?_)
  refine ⟨_, H.cell 0 0 rfl rfl, ?_⟩
  refine call_of (faulty6_c _ _) ?_
  rintro e w7 ⟨rfl, k7⟩
  replace H := H.call k7
  replace y := y.bel k7
  refine ⟨_, rfl, ?_⟩
  refine ifNot (fun h2 => ?_) (fun h2 => ?_)
  · exact zero_head 1 2 H rfl rfl rfl fun w8 k8 => no (by decide) (by unfold aboutE; rw [if_neg (not_not_intro h1), if_pos h2]) k8
  obtain ⟨q1, q2, q3⟩ := icBad_zero (msgE_zero h1).2.2.2.2
  have ea : aboutE p = bad false (p.body.drop 8) := by unfold aboutE; rw [if_neg (not_not_intro h1), if_neg (by rw [h2]; decide)]
  refine ⟨C, _, j, H.cell 0 3 rfl rfl, ?_⟩
  refine call_of (Peek3_c y (h.body.drop 8) l1 (by omega)) ?_
  rintro e w8 ⟨k8, he⟩
  by_cases h3 : bad false (p.body.drop 8) = 0
  · rw [if_pos h3] at he
    obtain ⟨A1, c1, A2, c2, rfl, y1, y2, m1, m2, f1, f2⟩ := he
    have x1 := H.old 2 rfl f1
    have x2 := H.old 2 rfl f2
    have kw := H.bel
    replace H := H.call k8
    refine ⟨_, _, _, _, _, _, _, _, _, _, _, _, _, _, _, _, rfl, ?_⟩
    refine put_head 2 H rfl rfl fun w9 H u9 => ?_
    refine ⟨H.bel, ?_⟩
    unfold RetAb
    rw [ea, if_pos h3]
    exact ⟨A1, c1, A2, c2, rfl, y1.but u9 x1, y2.but u9 x2, m1, m2, f1.le kw, f2.le kw⟩
  · rw [if_neg h3] at he
    subst he
    replace H := H.call k8
    refine ⟨_, _, _, _, _, _, _, _, _, _, _, _, _, _, _, _, rfl, ?_⟩
    refine put_head 2 H rfl rfl fun w9 H u9 => ?_
    exact no (w' := w9) h3 ea H.bel
end Go.Proofs.YtchdcdmdbjkihaaDoorS
