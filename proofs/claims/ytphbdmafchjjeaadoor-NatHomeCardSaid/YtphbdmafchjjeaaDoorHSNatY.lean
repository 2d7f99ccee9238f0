/- What a turned packet is: plain.
   Conditions: a packet's and a tuple's fields are of their kinds. -/
import Derived.Test.YtphbdmafchjjeaaDoorHSNatX
namespace Go.Proofs.YtphbdmafchjjeaaDoorS
open Go Go.RowKit Go.Proofs Go.Proofs.YtphbdmafchjjeaaDoorX
set_option maxRecDepth 100000
set_option linter.unusedVariables false
set_option linter.unusedSectionVars false
set_option linter.unusedSimpArgs false

theorem eqV_tp (a b : Tp) : eqV (tpv a) (tpv b) = true ↔ a = b := by
  cases a
  cases b
  simp [eqV, tpv]
theorem NearB.symm {pr : Int} {l l' : List Int} (h : NearB pr l l') : NearB pr l' l := by
  refine ⟨h.1.symm, fun i hi => ?_⟩
  rcases h.2 i (by rw [← h.1]; exact hi) with h1 | ⟨a, h1, h2, h3, h4⟩
  · exact Or.inl h1.symm
  · exact Or.inr ⟨a, h1, h2, h4, h3⟩
theorem echoS_range {b : List Int} (hb : Bytes b) {s u : Tp} (hs : s.Fine) (hu : u.Fine) (z : Bool) : 0 ≤ echoS b s u z ∧ echoS b s u z ≤ 65535 := by
  have h := over_id (wd_range hb 2) hs.sp hu.sp
  unfold echoS
  split
  · omega
  · exact h.2
theorem carV_bytes {b : List Int} (hb : Bytes b) (pr : Int) {s u : Tp} (hs : s.Fine) (hu : u.Fine) (z : Bool) : Bytes (carV b pr s u z) := by
  unfold carV
  split
  · have h4 := setw_bytes hb 4 hu.sp
    exact setw_bytes h4 2 (echoS_range h4 hs hu z)
  · have h2 := setw_bytes (setw_bytes hb 0 hu.sp) 2 hu.dp
    split
    · split
      · refine setw_bytes h2 6 ?_
        have h := over_ws (wd_range h2 6) hs hu
        unfold udpS
        split
        · omega
        · exact h.2
      · exact h2
    · split
      · exact setw_bytes h2 16 (over_ws (wd_range h2 16) hs hu).2
      · exact h2
/-- A packet of these has a tuple. -/
theorem ofE_case {p : Pk} (ho : ofE p = 0) : p.err = 0 ∧ ¬ p.off > 0 ∧ 8 ≤ p.body.length ∧ (p.proto = 17 ∨ (p.proto = 6 ∧ 20 ≤ p.body.length) ∨ (p.proto = 1 ∧ (p.body.getD 0 0 = 8 ∨ p.body.getD 0 0 = 0) ∧ p.body.getD 1 0 = 0)) := by
  unfold ofE at ho
  by_cases h1 : p.err ≠ 0
  · rw [if_pos h1] at ho; exact absurd ho h1
  rw [if_neg h1] at ho
  by_cases h2 : p.off > 0
  · rw [if_pos h2] at ho; omega
  rw [if_neg h2] at ho
  by_cases h4 : (p.proto = 1 ∨ p.proto = 17) ∧ p.body.length < 8
  · rw [if_pos h4] at ho; omega
  rw [if_neg h4] at ho
  by_cases h5 : p.proto = 6 ∧ p.body.length < 20
  · rw [if_pos h5] at ho; omega
  rw [if_neg h5] at ho
  unfold ofE4 at ho
  refine ⟨by omega, h2, ?_⟩
  by_cases h6 : p.proto = 17
  · exact ⟨by omega, Or.inl h6⟩
  rw [if_neg h6] at ho
  by_cases h7 : p.proto = 6
  · exact ⟨by omega, Or.inr (Or.inl ⟨h7, by omega⟩)⟩
  rw [if_neg h7] at ho
  by_cases h8 : p.proto = 1
  · rw [if_pos h8] at ho
    by_cases h9 : (p.body.getD 0 0 = 8 ∨ p.body.getD 0 0 = 0) ∧ p.body.getD 1 0 = 0
    · exact ⟨by omega, Or.inr (Or.inr ⟨h8, h9⟩)⟩
    · rw [if_neg h9] at ho; omega
  rw [if_neg h8] at ho
  omega
theorem ofE_mk {p : Pk} (h1 : p.err = 0) (h2 : ¬ p.off > 0) (h3 : 8 ≤ p.body.length) (h4 : p.proto = 17 ∨ (p.proto = 6 ∧ 20 ≤ p.body.length) ∨ (p.proto = 1 ∧ (p.body.getD 0 0 = 8 ∨ p.body.getD 0 0 = 0) ∧ p.body.getD 1 0 = 0)) : ofE p = 0 := by
  unfold ofE
  rw [if_neg (fun h => h h1), if_neg h2, if_neg (fun h => by omega), if_neg (fun h => by omega)]
  unfold ofE4
  rcases h4 with h4 | h4 | h4
  · rw [if_pos h4]
  · rw [if_neg (by omega), if_pos h4.1]
  · rw [if_neg (by omega), if_neg (by omega), if_pos h4.1, if_pos h4.2]

theorem udp_ports {b : List Int} (hb : Bytes b) (hl : 8 ≤ b.length) (s : Tp) {u : Tp} (hu : u.Fine) : wd (carV b 17 s u true) 0 = u.sp ∧ wd (carV b 17 s u true) 2 = u.dp := by
  obtain ⟨a0, a1, a2, a3, a4, a5, a6, a7, r, rfl, _⟩ := cut8 hl hb
  by_cases h : a6 * 256 + a7 = 0
  · rw [udp_no h]
    exact ⟨show u.sp / 256 * 256 + u.sp % 256 = u.sp by omega, show u.dp / 256 * 256 + u.dp % 256 = u.dp by omega⟩
  · rw [udp_yes h]
    exact ⟨show u.sp / 256 * 256 + u.sp % 256 = u.sp by omega, show u.dp / 256 * 256 + u.dp % 256 = u.dp by omega⟩
theorem tcp_ports {b : List Int} (hl : 18 ≤ b.length) (s u : Tp) : wd (carV b 6 s u true) 0 = u.sp ∧ wd (carV b 6 s u true) 2 = u.dp := by
  obtain ⟨a0, a1, a2, a3, a4, a5, a6, a7, a8, a9, c0, c1, c2, c3, c4, c5, c6, c7, r, rfl⟩ := cut18 hl
  rw [tcp_car]
  exact ⟨show u.sp / 256 * 256 + u.sp % 256 = u.sp by omega, show u.dp / 256 * 256 + u.dp % 256 = u.dp by omega⟩
theorem echo_ports {b : List Int} (hb : Bytes b) (hl : 8 ≤ b.length) (s u : Tp) : wd (carV b 1 s u true) 4 = u.sp ∧ (carV b 1 s u true).getD 0 0 = b.getD 0 0 ∧ (carV b 1 s u true).getD 1 0 = b.getD 1 0 := by
  obtain ⟨a0, a1, a2, a3, a4, a5, a6, a7, r, rfl, _⟩ := cut8 hl hb
  rw [echo_car]
  exact ⟨show u.sp / 256 * 256 + u.sp % 256 = u.sp by omega, rfl, rfl⟩
section
variable {p : Pk} {u : Tp}
theorem turn_same (he : ofT p = u) (ho : ofE p = 0) : turnP p u = p := by
  have e2 : ofT p = ofT1 p := by unfold ofT; rw [if_pos ho]
  have e1 : eqV (tpv (ofT p)) (tpv u) = true := (eqV_tp _ _).2 he
  have hs : u.src = p.src ∧ u.dst = p.dst := by
    rw [← he, e2]
    unfold ofT1
    split <;> exact ⟨rfl, rfl⟩
  unfold turnP
  rw [if_pos e1, hs.1, hs.2]
theorem turn_other (he : ofT p ≠ u) : turnP p u = { p with src := u.src, dst := u.dst, body := carV p.body u.proto (ofT p) u true } := by
  unfold turnP
  rw [if_neg (fun h => he ((eqV_tp _ _).1 h))]
/-- A packet that is turned. -/
structure Tn (p : Pk) (u : Tp) : Prop where
  h : p.Fine
  hu : u.Fine
  ho : ofE p = 0
  hp : u.proto = p.proto
  hi : p.proto = 1 → u.sp = u.dp
theorem ofT_is (ho : ofE p = 0) : ofT p = ofT1 p := by unfold ofT; rw [if_pos ho]
theorem Tn.sf (t : Tn p u) : (ofT p).Fine := by rw [ofT_is t.ho]; exact ofT1_fine t.h
theorem Tn.s_src (t : Tn p u) : (ofT p).src = p.src ∧ (ofT p).dst = p.dst ∧ (ofT p).proto = p.proto ∧ (p.proto = 1 → (ofT p).sp = (ofT p).dp ∧ (ofT p).sp = wd p.body 4) ∧ (p.proto ≠ 1 → (ofT p).sp = wd p.body 0 ∧ (ofT p).dp = wd p.body 2) := by
  rw [ofT_is t.ho]
  unfold ofT1
  split
  · exact ⟨rfl, rfl, rfl, fun _ => ⟨rfl, rfl⟩, fun h => by contradiction⟩
  · exact ⟨rfl, rfl, rfl, fun h => by contradiction, fun _ => ⟨rfl, rfl⟩⟩
theorem Tn.turnE (t : Tn p u) : turnE p u = 0 := by
  unfold Go.Proofs.YtphbdmafchjjeaaDoorS.turnE
  rw [if_neg (fun h => h (ofE_case t.ho).1), if_neg]
  rintro (h | h | h)
  · exact h t.ho
  · exact h t.hp
  · exact h.2 (t.hi (t.hp ▸ h.1))
theorem Tn.self (t : Tn p u) : Tn p (ofT p) := ⟨t.h, t.sf, t.ho, t.s_src.2.2.1, fun h => (t.s_src.2.2.2.1 h).1⟩
/-- The packet turned. -/
theorem Tn.q (t : Tn p u) : (turnP p u).Fine ∧ (turnP p u).err = 0 ∧ ofE (turnP p u) = 0 ∧ ofT (turnP p u) = u ∧ (turnP p u).proto = p.proto ∧ (turnP p u).body.length = p.body.length := by
  by_cases he : ofT p = u
  · rw [turn_same he t.ho]
    exact ⟨t.h, (ofE_case t.ho).1, t.ho, he, rfl, rfl⟩
  obtain ⟨h1, h2, h3, h4⟩ := ofE_case t.ho
  have bb := carV_bytes t.h.body u.proto t.sf t.hu true
  have bl := carV_len p.body u.proto (ofT p) u true
  rw [turn_other he]
  have f : Pk.Fine { p with src := u.src, dst := u.dst, body := carV p.body u.proto (ofT p) u true } := ⟨t.h.tos, t.h.id, t.h.off, t.h.ttl, t.h.proto, t.hu.src, t.hu.dst, t.h.opts, bb, t.h.lo, by rw [bl]; exact t.h.lb⟩
  have e : Pk.err { p with src := u.src, dst := u.dst, body := carV p.body u.proto (ofT p) u true } = 0 := by
    rw [← h1]
    unfold Pk.err
    simp only [bl]
  have o : ofE { p with src := u.src, dst := u.dst, body := carV p.body u.proto (ofT p) u true } = 0 := by
    refine ofE_mk e h2 (by rw [bl]; exact h3) ?_
    rcases h4 with h4 | h4 | h4
    · exact Or.inl h4
    · exact Or.inr (Or.inl ⟨h4.1, by rw [bl]; exact h4.2⟩)
    · have hp := echo_ports t.h.body h3 (ofT p) u
      refine Or.inr (Or.inr ⟨h4.1, ?_⟩)
      show ((carV p.body u.proto (ofT p) u true).getD 0 0 = 8 ∨ (carV p.body u.proto (ofT p) u true).getD 0 0 = 0) ∧ (carV p.body u.proto (ofT p) u true).getD 1 0 = 0
      rw [t.hp, h4.1, hp.2.1, hp.2.2]
      exact h4.2
  refine ⟨f, e, o, ?_, rfl, bl⟩
  rw [ofT_is o]
  unfold ofT1
  have tp : u.proto = p.proto := t.hp
  have ti := t.hi
  have pr : (p.proto = 1 → wd (carV p.body u.proto (ofT p) u true) 4 = u.sp) ∧ (p.proto ≠ 1 → wd (carV p.body u.proto (ofT p) u true) 0 = u.sp ∧ wd (carV p.body u.proto (ofT p) u true) 2 = u.dp) := by
    rw [tp]
    rcases h4 with h4 | h4 | h4
    · rw [h4]
      exact ⟨fun h => by omega, fun _ => udp_ports t.h.body h3 (ofT p) t.hu⟩
    · rw [h4.1]
      exact ⟨fun h => by omega, fun _ => tcp_ports (by omega) (ofT p) u⟩
    · rw [h4.1]
      exact ⟨fun _ => (echo_ports t.h.body h3 (ofT p) u).1, fun h => absurd rfl h⟩
  by_cases hc : p.proto = 1
  · rw [if_pos hc]
    have e5 := pr.1 hc
    have e6 := ti hc
    show Tp.mk u.src u.dst p.proto (wd (carV p.body u.proto (ofT p) u true) 4) (wd (carV p.body u.proto (ofT p) u true) 4) = u
    rw [e5, ← tp]
    calc Tp.mk u.src u.dst u.proto u.sp u.sp = Tp.mk u.src u.dst u.proto u.sp u.dp := by rw [e6]
      _ = u := rfl
  · rw [if_neg hc]
    have e5 := pr.2 hc
    show Tp.mk u.src u.dst p.proto (wd (carV p.body u.proto (ofT p) u true) 0) (wd (carV p.body u.proto (ofT p) u true) 2) = u
    rw [e5.1, e5.2, ← tp]
/-- .. and turned back. -/
theorem Tn.back (t : Tn p u) : Tn (turnP p u) (ofT p) ∧ ∃ l, turnP (turnP p u) (ofT p) = { p with body := l } ∧ NearB p.proto l p.body := by
  obtain ⟨q1, q2, q3, q4, q5, q6⟩ := t.q
  obtain ⟨s1, s2, s3, s4, s5⟩ := t.s_src
  refine ⟨⟨q1, t.sf, q3, by rw [q5]; exact s3, fun h => (s4 (q5 ▸ h)).1⟩, ?_⟩
  by_cases he : ofT p = u
  · rw [turn_same he t.ho, turn_same rfl t.ho]
    exact ⟨p.body, rfl, NearB.refl _ _⟩
  obtain ⟨h1, h2, h3, h4⟩ := ofE_case t.ho
  rw [turn_other (p := turnP p u) (by rw [q4]; exact Ne.symm he), q4, s1, s2, s3]
  refine ⟨carV (turnP p u).body p.proto u (ofT p) true, ?_, ?_⟩
  · rw [turn_other he]
  · rw [turn_other he]
    show NearB p.proto (carV (carV p.body u.proto (ofT p) u true) p.proto u (ofT p) true) p.body
    rw [t.hp]
    rcases h4 with h4 | h4 | h4
    · have := s5 (by omega)
      rw [h4, udp_back t.h.body h3 t.sf t.hu this.1 this.2]
      exact NearB.refl _ _
    · have := s5 (by omega)
      rw [h4.1]
      exact (tcp_back t.h.body (by omega) t.sf t.hu this.1 this.2).symm
    · rw [h4.1]
      exact (echo_back t.h.body h3 t.sf t.hu (s4 h4.1).2).symm
theorem Tn.right (t : Tn p u) (hr : rightV p = true) (hl : p.body.length ≤ 65535) : rightV (turnP p u) = true := by
  by_cases he : ofT p = u
  · rw [turn_same he t.ho]
    exact hr
  obtain ⟨h1, h2, h3, h4⟩ := ofE_case t.ho
  obtain ⟨s1, s2, s3, s4, s5⟩ := t.s_src
  rw [turn_other he, t.hp]
  unfold rightV at hr ⊢
  rcases h4 with h4 | h4 | h4
  · have := s5 (by omega)
    rw [if_pos h4] at hr
    rw [if_pos h4]
    refine decide_eq_true ?_
    show uBad u.src u.dst (carV p.body p.proto (ofT p) u true) = 0
    rw [h4]
    exact udp_right t.h.body t.sf t.hu this.1 this.2 (by rw [s1, s2]; exact of_decide_eq_true hr)
  · have := s5 (by omega)
    rw [if_neg (by omega), if_neg (by omega)] at hr
    rw [if_neg (by show ¬ p.proto = 17; omega), if_neg (by show ¬ p.proto = 1; omega)]
    refine decide_eq_true ?_
    show S (tot true (psh u.src u.dst p.proto ((carV p.body p.proto (ofT p) u true).length : Int) ++ carV p.body p.proto (ofT p) u true)) = 65535
    have hr2 := of_decide_eq_true hr
    rw [h4.1] at hr2 ⊢
    exact tcp_right t.h.body (by omega) hl t.sf t.hu this.1 this.2 (by rw [s1, s2]; exact hr2)
  · rw [if_neg (by omega), if_pos h4.1] at hr
    rw [if_neg (by show ¬ p.proto = 17; omega), if_pos h4.1]
    refine decide_eq_true ?_
    show icBad (carV p.body p.proto (ofT p) u true) = 0
    rw [h4.1]
    exact echo_right t.h.body t.sf t.hu (s4 h4.1).2 (of_decide_eq_true hr)
end
end Go.Proofs.YtphbdmafchjjeaaDoorS
