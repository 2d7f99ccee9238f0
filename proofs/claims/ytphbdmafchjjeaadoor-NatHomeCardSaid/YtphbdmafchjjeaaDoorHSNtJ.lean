/- Package weftlaw23: home, icmpNear, NatHome.
   Conditions: a packet's and a tuple's fields are of their kinds; the package variables hold their tables. -/
import Derived.Test.YtphbdmafchjjeaaDoorHSNtI
import Derived.Test.YtphbdmafchjjeaaDoorHSNtG
import Derived.Test.YtphbdmafchjjeaaDoorHSFN4
namespace Go.Proofs.YtphbdmafchjjeaaDoorS
open Go Go.RowKit Go.Proofs Go.Proofs.YtphbdmafchjjeaaDoorX
set_option maxRecDepth 100000
set_option linter.unusedVariables false
set_option linter.unusedSectionVars false
set_option linter.unusedSimpArgs false

/-! ### plain -/
theorem ordB_off {n : Int} {m : Bool} {o : Int} (h : ordB o n m = true) : 0 ≤ o := (ordB_true h).1.1
section
variable {p : Pk} {u : Tp} (t : Tn p u)
include t
theorem Tn.q8 : Q8 (turnP p u) := by
  obtain ⟨q1, q2, q3, q4, q5, q6⟩ := t.q
  obtain ⟨h1, h2, h3, h4⟩ := ofE_case q3
  refine ⟨q1, q2, ?_, h3, ?_⟩
  · have := ordB_off (Pk.err_zero q2).2.1
    omega
  · rcases h4 with h4 | h4 | h4
    · exact Or.inl h4
    · exact Or.inr (Or.inl h4.1)
    · exact Or.inr (Or.inr h4)
theorem Tn.p8 : Q8 p := by
  have k := t.self.q8
  rwa [turn_same rfl t.ho] at k
theorem s8_is {q : Pk} (h : ofE q = 0) : s8 q = ofT q := by
  rw [ofT_is h]
  unfold s8 quT1 ofT1
  rw [take_wd (by omega), take_wd (by omega), take_wd (by omega)]
theorem Tn.s8q : s8 (turnP p u) = u := (s8_is t t.q.2.2.1).trans t.q.2.2.2.1
theorem Tn.pt : Pt8 p.proto (ofT p) (p.body.take 8) := by
  have k := t.p8.s8P.2.2
  rwa [s8_is t t.ho] at k
theorem Tn.r8 : R8 p.proto (ofT p) u (p.body.take 8) ((turnP p u).body.take 8) := by
  by_cases he : ofT p = u
  · rw [turn_same he t.ho, ← he]
    exact R8.same t.p8.pr8 t.p8.l8 t.h.body t.pt
  · rw [turn_other he, t.hp]
    exact R8.car t.p8.pr8 t.p8.l8 t.h.body t.sf t.hu true
/-- The fault, turned: about the packet as its sender knows it. -/
theorem Tn.home : Q8 (qt (turnP p u) (ofT p)) ∧ s8 (qt (turnP p u) (ofT p)) = ofT p ∧ NearB p.proto ((qt (turnP p u) (ofT p)).body.take 8) (p.body.take 8) ∧
    Q8 (qt (qt (turnP p u) (ofT p)) u) ∧ NearB p.proto ((qt (qt (turnP p u) (ofT p)) u).body.take 8) ((turnP p u).body.take 8) := by
  obtain ⟨s1, s2, s3, s4, s5⟩ := t.s_src
  have q5 : (turnP p u).proto = p.proto := t.q.2.2.2.2.1
  have Q := t.q8
  obtain ⟨Q1, e1, r1⟩ := Q.turn t.sf (s3.trans q5.symm) (fun h => (s4 (q5.symm.trans h)).1)
  have q6 : (qt (turnP p u) (ofT p)).proto = p.proto := q5
  obtain ⟨Q2, e2, r2⟩ := Q1.turn t.hu (t.hp.trans q6.symm) (fun h => t.hi (q6.symm.trans h))
  rw [q5, t.s8q] at r1
  rw [q6, e1] at r2
  have pq := Q.s8P.2.2
  rw [q5, t.s8q] at pq
  exact ⟨Q1, e1, t.r8.back (t.h.body.take 8) t.pt r1, Q2, r1.back Q.b8 pq r2⟩
theorem Tn.heads (l : List Int) : ({ qt (turnP p u) (ofT p) with body := l } : Pk) = { p with body := l } := by
  obtain ⟨s1, s2, s3, s4, s5⟩ := t.s_src
  show Pk.mk p.tos p.id p.df p.mf p.off p.ttl p.proto (ofT p).src (ofT p).dst p.opts l = _
  rw [s1, s2]
theorem Tn.heads2 (l : List Int) : ({ qt (qt (turnP p u) (ofT p)) u with body := l } : Pk) = { turnP p u with body := l } := rfl
end
theorem faultP_fx {q : Pk} (Q : Q8 q) (t c src : Int) : faultP q t c 0 src = fx q t c src q.src := by
  have e : faultI q t c 0 = fxI q t c := by
    unfold faultI fxI
    rw [Nat.min_eq_left Q.l8]
    have : faultR t 0 = 0 := by unfold faultR; split <;> rfl
    rw [this]
  unfold faultP fx
  rw [e]
theorem fx_len {q : Pk} (Q : Q8 q) (t c a b : Int) : (fx q t c a b).body.length = 36 + q.opts.length := by
  have := Q.cutL
  show ((fxI q t c).bytes (fxI q t c).sum).length = _
  rw [Ic.len]
  show 8 + ((q.bytes q.sum).take (20 + q.opts.length + 8)).length = _
  omega
theorem turnE_zero {p : Pk} {u : Tp} (h : p.Fine) (hu : u.Fine) (he : turnE p u = 0) : Tn p u := by
  unfold turnE at he
  by_cases h1 : p.err ≠ 0
  · rw [if_pos h1] at he; exact absurd he h1
  rw [if_neg h1] at he
  by_cases h2 : ofE p ≠ 0 ∨ u.proto ≠ p.proto ∨ (u.proto = 1 ∧ u.sp ≠ u.dp)
  · rw [if_pos h2] at he; cases he
  have h3 : ofE p = 0 := Decidable.of_not_not fun h3 => h2 (Or.inl h3)
  have h4 : u.proto = p.proto := Decidable.of_not_not fun h4 => h2 (Or.inr (Or.inl h4))
  exact ⟨h, hu, h3, h4, fun h5 => Decidable.of_not_not fun h6 => h2 (Or.inr (Or.inr ⟨h4.trans h5, h6⟩))⟩

/-! ### About of a fault -/
section
variable {t c a b : Int} (ht : 0 ≤ t ∧ t ≤ 255) (hc : 0 ≤ c ∧ c ≤ 255) (hm : mayT t = true) (ha : 0 ≤ a ∧ a ≤ 4294967295) (hb' : 0 ≤ b ∧ b ≤ 4294967295)
include ht hc ha hb' in
theorem Q8.fxFine {q : Pk} (Q : Q8 q) : (fx q t c a b).Fine := nmadeP_fine (Q.fxF ht hc).1 (Q.fxF ht hc).2 (by decide) ha hb'
include ht hc hm ha hb' in
theorem about_fx {w : World} (hg : Gl w) {q P : Pk} (Q : Q8 q) (hP : ({ q with body := q.body.take 8 } : Pk) = P) {A : Option Addr} {n c' : Nat} {B : Option Addr} {m d : Nat} (hp : PkAt w (fx q t c a b) A n c' B m d) :
    Calls Tryd.prog 36 #[.agg (pb (fx q t c a b) A n c' B m d).toArray] w (fun e w' => Bel w w' ∧ ∃ A1 c1 A2 c2, e = .returned (.tuple #[.agg (pv P A1 q.opts.length c1).toArray, .slice A2 8 c2, .int .i64 0]) ∧ PkAt w' P A1 q.opts.length c1 A2 8 c2) := by
  refine (About_c hg.f (Q.fxFine ht hc ha hb') hp).mono fun e w' hk => ⟨hk.1, ?_⟩
  have he := hk.2
  obtain ⟨ea, eb⟩ := Q.told (a := a) (b := b) ht hc hm
  unfold RetAb at he
  rw [if_pos ea, show (fx q t c a b).body.drop 8 = tfB (fx q t c a b) from rfl] at he
  obtain ⟨A1, c1, A2, c2, rfl, y1, y2, l1, l2, f1, f2⟩ := he
  have hC := Q.cut
  have ehd := hC.head (0 : Int)
  simp only [hdF, Prod.mk.injEq] at ehd
  obtain ⟨r0, r1, r2, r3, r4, r5, r6, r7, r8, _⟩ := ehd
  have e1 : hlen (tfB (fx q t c a b)) = 20 + q.opts.length := by rw [eb]; exact Q.chl
  have e2 : (((tfB (fx q t c a b)).take (hlen (tfB (fx q t c a b)))).drop 20) = q.opts := by rw [eb]; exact hC.opts
  have e3 : ((tfB (fx q t c a b)).take (there (tfB (fx q t c a b)))).drop (hlen (tfB (fx q t c a b))) = q.body.take 8 := (Q.quote (a := a) (b := b) ht hc hm).1
  rw [e3] at y2
  rw [e2, e1] at y1
  have e4 : there (tfB (fx q t c a b)) - hlen (tfB (fx q t c a b)) = 8 := by rw [← y2.len]; exact Q.t8
  rw [e4] at y2 l2 ⊢
  rw [e1] at l1 ⊢
  rw [Nat.add_sub_cancel_left] at y1 l1 ⊢
  refine ⟨A1, c1, A2, c2, ?_, ?_⟩
  · subst hP
    have : hb (tfB (fx q t c a b)) A1 q.opts.length c1 = pv q A1 q.opts.length c1 := by
      unfold hb pv
      rw [eb, r0, r1, r2, r3, r4, r5, r6, r7, r8]
    rw [this]
    rfl
  · subst hP
    exact ⟨y1, y2, l1, l2⟩
include ht hc hm ha hb' in
theorem icmpNear_t {w : World} (hg : Gl w) {q q2 : Pk} (Q : Q8 q) (Q2 : Q8 q2) (hP : ({ q2 with body := q2.body.take 8 } : Pk) = { q with body := q2.body.take 8 }) (hN : NearB q.proto (q2.body.take 8) (q.body.take 8))
    {A : Option Addr} {n c1 : Nat} {B : Option Addr} {m d : Nat} (h2 : PkAt w (fx q2 t c a b) A n c1 B m d) {A' : Option Addr} {n' c1' : Nat} {B' : Option Addr} {m' d' : Nat} (h1 : PkAt w (fx q t c a b) A' n' c1' B' m' d') :
    Calls Tryd.prog 37 #[.agg (pb (fx q2 t c a b) A n c1 B m d).toArray, .agg (pb (fx q t c a b) A' n' c1' B' m' d').toArray] w (Yes w) := by
  have o1 := Q.olen
  have eo : q2.opts = q.opts := by
    have k := congrArg Pk.opts hP
    exact k
  have ln2 : (0 : Nat) = n := h2.opts.len
  have ln1 : (0 : Nat) = n' := h1.opts.len
  have lm2 := h2.body.len
  have lm1 := h1.body.len
  rw [fx_len Q2] at lm2
  rw [fx_len Q] at lm1
  rw [eo] at lm2
  refine weftlaw23_icmpNear.run ?_
  unfold weftlaw23_icmpNear.s
  refine own_new (l := pb (fx q2 t c a b) A n c1 B m d) (Own.refl w) fun g1 w2 H => ?_
  refine own_new (l := pb (fx q t c a b) A' n' c1' B' m' d') H fun g3 w4 H => ?_
  refine ld_pkt (H.bk 1 rfl) ?_
  refine call_of (about_fx ht hc hm ha hb' (hg.bel H.bel) Q2 hP (h2.bel H.bel)) ?_
  rintro e w16 ⟨k16, A1, d1, A2, d2, rfl, y1⟩
  refine ⟨_, _, _, _, _, _, _, _, _, _, _, _, _, _, _, _, rfl, ?_⟩
  refine own_mk hz (vs := pv ({ q with body := q2.body.take 8 } : Pk) A1 q2.opts.length d1) (H.call k16) rfl rfl fun g30 w32 H k32 _ => ?_
  refine ld_pkt (H.bk 1 rfl) ?_
  refine call_of (about_fx ht hc hm ha hb' (hg.bel H.bel) Q rfl (h1.bel H.bel)) ?_
  rintro e w44 ⟨k44, A3, d3, A4, d4, rfl, y3⟩
  refine ⟨_, _, _, _, _, _, _, _, _, _, _, _, _, _, _, _, rfl, ?_⟩
  refine own_mk hz (vs := pv ({ q with body := q.body.take 8 } : Pk) A3 q.opts.length d3) (H.call k44) rfl rfl fun g58 w60 H k60 _ => ?_
  refine ifE (fun _ => ?_) (fun h => absurd rfl h)
  refine ifE (fun _ => ?_) (fun h => absurd rfl h)
  refine ld_head10 (H.bk 3 rfl) ?_
  refine ld_head10 (H.bk 2 rfl) ?_
  have ya : By w60 A n [] := (h2.opts.bel H.bel)
  have yb : By w60 A' n' [] := (h1.opts.bel H.bel)
  refine call_of (nheads_t ya yb (by omega)) ?_
  rintro e w81 ⟨rfl, k81⟩
  refine ⟨_, rfl, ?_⟩
  refine ifB (fun _ => ?_) (fun h => by cases h)
  replace H := H.call k81
  refine ⟨B, m, d, H.cell 3 10 rfl rfl, B', m', d', H.cell 2 10 rfl rfl, ?_⟩
  refine ifE (fun _ => ?_) (fun h => absurd (show (m : Int) = (m' : Int) by omega) h)
  refine ld_head (H.bk 1 rfl) ?_
  refine ld_head (H.bk 0 rfl) ?_
  have z1 : PkAt w81 ({ q with body := q2.body.take 8 } : Pk) A1 q2.opts.length d1 A2 8 d2 := y1.bel (Bel.trans k32 (Bel.trans k44 (Bel.trans k60 k81)))
  have z3 : PkAt w81 ({ ({ q with body := q2.body.take 8 } : Pk) with body := q.body.take 8 } : Pk) A3 q.opts.length d3 A4 8 d4 := y3.bel (Bel.trans k60 k81)
  refine call_of (near_t z1 z3 hN (by rw [eo]; omega) (by omega)) ?_
  rintro e w106 ⟨rfl, k106⟩
  exact ⟨_, rfl, rfl, Bel.trans H.bel k106⟩
end
end Go.Proofs.YtphbdmafchjjeaaDoorS
