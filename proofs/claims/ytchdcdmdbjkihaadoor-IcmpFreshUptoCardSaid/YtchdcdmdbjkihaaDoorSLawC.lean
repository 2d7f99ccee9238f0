/- Package weftlaw6, law.go: every step is as the document says; so every script.
   Conditions: the arguments are as a row's arguments are; the package variables are as they were laid. -/
import Derived.Test.YtchdcdmdbjkihaaDoorSRef6B
import Derived.Test.YtchdcdmdbjkihaaDoorSLawA
import Derived.Test.YtchdcdmdbjkihaaDoorSFT
namespace Go.Proofs.YtchdcdmdbjkihaaDoorS
open Go Go.RowKit Go.Proofs Go.Proofs.YtchdcdmdbjkihaaDoorX
set_option maxRecDepth 100000
set_option linter.unusedVariables false
set_option linter.unusedSimpArgs false

/-! ### parts of records -/
theorem ld_pktA {w : World} {g o : Nat} {a0 a1 : Int} {a2 a3 : Bool} {a4 a5 a6 a7 a8 : Int} {A : Option Addr} {n c : Nat} {B : Option Addr} {m d : Nat} (h : At w ⟨g, o, none⟩ (hv a0 a1 a2 a3 a4 a5 a6 a7 a8 A n c ++ [.slice B m d]))
    {K : Int → Int → Bool → Bool → Int → Int → Int → Int → Int → Option Addr → Nat → Nat → Option Addr → Nat → Nat → Prop} (k : K a0 a1 a2 a3 a4 a5 a6 a7 a8 A n c B m d) :
    ∃ x0 : Int, ∃ x1 : Int, ∃ x2 : Bool, ∃ x3 : Bool, ∃ x4 : Int, ∃ x5 : Int, ∃ x6 : Int, ∃ x7 : Int, ∃ x8 : Int, ∃ (C : Option Addr) (i j : Nat), ∃ (D : Option Addr) (i' j' : Nat),
      (11 = 11 ∧ At w ⟨g, o, none⟩ [.int .u8 x0, .int .u16 x1, .bool x2, .bool x3, .int .i64 x4, .int .u8 x5, .int .u8 x6, .int .u32 x7, .int .u32 x8, .slice C i j, .slice D i' j']) ∧ K x0 x1 x2 x3 x4 x5 x6 x7 x8 C i j D i' j' :=
  ⟨_, _, _, _, _, _, _, _, _, _, _, _, _, _, _, ⟨rfl, h⟩, k⟩
theorem ld_msgA {w : World} {g o : Nat} {a0 a1 a2 : Int} {A : Option Addr} {n c : Nat} (h : At w ⟨g, o, none⟩ (mv a0 a1 a2 A n c)) {K : Int → Int → Int → Option Addr → Nat → Nat → Prop} (k : K a0 a1 a2 A n c) :
    ∃ x0 : Int, ∃ x1 : Int, ∃ x2 : Int, ∃ (C : Option Addr) (i j : Nat), (4 = 4 ∧ At w ⟨g, o, none⟩ [.int .u8 x0, .int .u8 x1, .int .u32 x2, .slice C i j]) ∧ K x0 x1 x2 C i j :=
  ⟨_, _, _, _, _, _, ⟨rfl, h⟩, k⟩
/-! ### answers, alike for both -/
def icOut (b : List Int) : Int × Int × Int × List Int := if icBad b = 0 then (b.getD 0 0, b.getD 1 0, lg b 4, b.drop 8) else (0, 0, 0, [])
theorem ic_out {w w' : World} {b : List Int} {n : Nat} {e : Ending} (hn : b.length = n) (h : RetIc w n b e w') : Bel w w' ∧ ∃ A c, e = .returned (.tuple #[.agg (mv (icOut b).1 (icOut b).2.1 (icOut b).2.2.1 A (icOut b).2.2.2.length c).toArray, .int .i64 (icBad b)]) ∧ By w' A (icOut b).2.2.2.length (icOut b).2.2.2 ∧ (icOut b).2.2.2.length ≤ 100000 := by
  obtain ⟨k, h⟩ := h
  refine ⟨k, ?_⟩
  by_cases h0 : icBad b = 0
  · rw [if_pos h0] at h
    obtain ⟨A, c, rfl, y, l1, r1⟩ := h
    have := icBad_zero h0
    have e : icOut b = (b.getD 0 0, b.getD 1 0, lg b 4, b.drop 8) := by unfold icOut; rw [if_pos h0]
    rw [e, h0]
    simp only
    have el : (b.drop 8).length = n - 8 := by rw [List.length_drop, hn]
    exact ⟨A, c, by rw [el], by rw [el]; exact y, by rw [el]; omega⟩
  · rw [if_neg h0] at h
    have e0 : icOut b = (0, 0, 0, []) := by unfold icOut; rw [if_neg h0]
    rw [e0]
    exact ⟨none, 0, h, By.nil _ _, by simp⟩
def abP (p : Pk) : Pk :=
  if aboutE p = 0 then ⟨(p.body.drop 8).getD 1 0, wd (p.body.drop 8) 4, decide (wd (p.body.drop 8) 6 / 16384 % 2 = 1), decide (wd (p.body.drop 8) 6 / 8192 % 2 = 1), wd (p.body.drop 8) 6 % 8192 * 8, (p.body.drop 8).getD 8 0, (p.body.drop 8).getD 9 0, lg (p.body.drop 8) 12, lg (p.body.drop 8) 16,
    ((p.body.drop 8).take (hlen (p.body.drop 8))).drop 20, ((p.body.drop 8).take (there (p.body.drop 8))).drop (hlen (p.body.drop 8))⟩ else pz
theorem ab_out {w w' : World} {p : Pk} {e : Ending} (h : RetAb w p e w') : ∃ A n c B m d, e = .returned (.tuple #[.agg (pv (abP p) A n c).toArray, .slice B m d, .int .i64 (aboutE p)]) ∧ PkAt w' (abP p) A n c B m d := by
  unfold RetAb at h
  by_cases h0 : aboutE p = 0
  · rw [if_pos h0] at h
    obtain ⟨A1, c1, A2, c2, rfl, y1, y2, l1, l2, r1, r2⟩ := h
    have e : abP p = ⟨(p.body.drop 8).getD 1 0, wd (p.body.drop 8) 4, decide (wd (p.body.drop 8) 6 / 16384 % 2 = 1), decide (wd (p.body.drop 8) 6 / 8192 % 2 = 1), wd (p.body.drop 8) 6 % 8192 * 8, (p.body.drop 8).getD 8 0, (p.body.drop 8).getD 9 0, lg (p.body.drop 8) 12, lg (p.body.drop 8) 16,
      ((p.body.drop 8).take (hlen (p.body.drop 8))).drop 20, ((p.body.drop 8).take (there (p.body.drop 8))).drop (hlen (p.body.drop 8))⟩ := by unfold abP; rw [if_pos h0]
    rw [e, h0]
    exact ⟨A1, _, c1, A2, _, c2, rfl, ⟨y1, y2, l1, l2⟩⟩
  · rw [if_neg h0] at h
    have e0 : abP p = pz := by unfold abP; rw [if_neg h0]
    rw [e0]
    exact ⟨none, 0, 0, none, 0, 0, h, pz_at w'⟩
theorem abP_len {p : Pk} : (abP p).opts.length ≤ 100000 ∧ (abP p).body.length ≤ 100000 := by
  by_cases h0 : aboutE p = 0
  · have hm : msgE p = 0 := by
      unfold aboutE at h0
      by_cases h1 : msgE p ≠ 0
      · rw [if_pos h1] at h0; exact h0
      · exact Decidable.of_not_not h1
    have := icBad_zero (msgE_zero hm).2.2.2.2
    have e : (abP p).opts = ((p.body.drop 8).take (hlen (p.body.drop 8))).drop 20 ∧ (abP p).body = ((p.body.drop 8).take (there (p.body.drop 8))).drop (hlen (p.body.drop 8)) := by unfold abP; rw [if_pos h0]; exact ⟨rfl, rfl⟩
    rw [e.1, e.2]
    simp only [List.length_drop, List.length_take]
    omega
  · have e0 : abP p = pz := by unfold abP; rw [if_neg h0]
    rw [e0]
    exact ⟨by decide, by decide⟩
theorem pkE_len {k : Int} {q : Pk} (h : k = 0 → q.opts.length ≤ 100000 ∧ q.body.length ≤ 100000) : (if k = 0 then q else pz).opts.length ≤ 100000 ∧ (if k = 0 then q else pz).body.length ≤ 100000 := by
  by_cases h0 : k = 0
  · rw [if_pos h0]; exact h h0
  · rw [if_neg h0]; exact ⟨by decide, by decide⟩
theorem echo_len {p : Pk} (h : echoE p = 0) : (echoP p).opts.length ≤ 100000 ∧ (echoP p).body.length ≤ 100000 := by
  have hm : msgE p = 0 := by
    unfold echoE at h
    by_cases h1 : msgE p ≠ 0
    · rw [if_pos h1] at h; exact h
    · exact Decidable.of_not_not h1
  have := icBad_zero (msgE_zero hm).2.2.2.2
  refine ⟨by show ([] : List Int).length ≤ _; decide, ?_⟩
  show ((echoI p).bytes (echoI p).sum).length ≤ _
  rw [Ic.len]
  show 8 + (p.body.drop 8).length ≤ _
  rw [List.length_drop]
  omega
theorem faultE_err {p : Pk} {t k x src : Int} (h : faultE p t k x src = 0) : p.err = 0 := by
  unfold faultE at h
  by_cases h1 : mayB t k x = false
  · rw [if_pos h1] at h; omega
  rw [if_neg h1] at h
  by_cases h2 : plainA src = false
  · rw [if_pos h2] at h; omega
  rw [if_neg h2] at h
  by_cases h3 : p.err ≠ 0
  · rw [if_pos h3] at h; exact h
  exact Decidable.of_not_not h3
theorem fault_len {p : Pk} {t k x src : Int} (h : faultE p t k x src = 0) : (faultP p t k x src).opts.length ≤ 100000 ∧ (faultP p t k x src).body.length ≤ 100000 := by
  have := (faultI_len (faultE_err h) t k x).2
  refine ⟨by show ([] : List Int).length ≤ _; decide, ?_⟩
  show ((faultI p t k x).bytes (faultI p t k x).sum).length ≤ _
  rw [Ic.len]
  omega

/-! ### a step -/
structure Op6 where
  k : Int
  b : List Int
  q : Ic
  p : Pk
  t : Int
  cd : Int
  x : Int
  src : Int
structure Op6.Fine (o : Op6) : Prop where
  b : Bytes o.b
  q : o.q.Fine
  p : o.p.Fine
  t : 0 ≤ o.t ∧ o.t ≤ 255
  cd : 0 ≤ o.cd ∧ o.cd ≤ 255
  src : 0 ≤ o.src ∧ o.src ≤ 4294967295
def ov (o : Op6) (Z : Option Addr) (zn zc : Nat) (C : Option Addr) (cn cc : Nat) (A : Option Addr) (n c : Nat) (B : Option Addr) (m d : Nat) : List Value :=
  [.int .i64 o.k, .slice Z zn zc] ++ (mv o.q.typ o.q.code o.q.rest C cn cc ++ (pb o.p A n c B m d ++ [.int .u8 o.t, .int .u8 o.cd, .int .i64 o.x, .int .u32 o.src]))
structure OpAt (w : World) (o : Op6) (Z : Option Addr) (zn zc : Nat) (C : Option Addr) (cn cc : Nat) (A : Option Addr) (n c : Nat) (B : Option Addr) (m d : Nat) : Prop where
  b : By w Z zn o.b
  cb : zn ≤ zc
  q : By w C cn o.q.body
  p : PkAt w o.p A n c B m d
theorem OpAt.bel {w w' : World} {o : Op6} {Z : Option Addr} {zn zc : Nat} {C : Option Addr} {cn cc : Nat} {A : Option Addr} {n c : Nat} {B : Option Addr} {m d : Nat} (h : OpAt w o Z zn zc C cn cc A n c B m d) (k : Bel w w') : OpAt w' o Z zn zc C cn cc A n c B m d :=
  ⟨h.b.bel k, h.cb, h.q.bel k, h.p.bel k⟩
section
variable {w w1 : World} {o : Op6} {Z : Option Addr} {zn zc : Nat} {C : Option Addr} {cn cc : Nat} {A : Option Addr} {n c : Nat} {B : Option Addr} {m d : Nat} {g t : Nat}
theorem ov_msg (h : Bk w g t (ov o Z zn zc C cn cc A n c B m d)) : At w ⟨g, 2, none⟩ (mv o.q.typ o.q.code o.q.rest C cn cc) := at_mid [.int .i64 o.k, .slice Z zn zc] h rfl
theorem ov_pkt (h : Bk w g t (ov o Z zn zc C cn cc A n c B m d)) : At w ⟨g, 6, none⟩ (pb o.p A n c B m d) := at_mid ([.int .i64 o.k, .slice Z zn zc] ++ mv o.q.typ o.q.code o.q.rest C cn cc) (mid := pb o.p A n c B m d) (post := [.int .u8 o.t, .int .u8 o.cd, .int .i64 o.x, .int .u32 o.src]) h rfl
end
theorem plays_t {w : World} (hg : Gl w) {o : Op6} (ho : o.Fine) {Z : Option Addr} {zn zc : Nat} {C : Option Addr} {cn cc : Nat} {A : Option Addr} {n c : Nat} {B : Option Addr} {m d : Nat} (h : OpAt w o Z zn zc C cn cc A n c B m d) :
    Calls Tryd.prog 31 #[.agg (ov o Z zn zc C cn cc A n c B m d).toArray] w (Yes w) := by
  refine weftlaw6_plays.run ?_
  unfold weftlaw6_plays.s
  have lz := h.b.len
  refine own_new (l := ov o Z zn zc C cn cc A n c B m d) (Own.refl w) fun g1 w1 H => ?_
  refine ⟨_, H.cell 0 0 rfl rfl, ?_⟩
  refine ifE (fun _ => ?_) (fun _ => ?_)
  · refine ⟨_, _, _, H.cell 0 1 rfl rfl, ?_⟩
    refine call_of (Parse_c (h.b.bel H.bel) ho.b h.cb) ?_
    rintro e w2 he
    obtain ⟨k2, A1, c1, rfl, y1, l1⟩ := ic_out lz he
    replace H := H.call k2
    refine ⟨_, _, _, _, _, _, _, rfl, ?_⟩
    refine own_mk (mv 0 0 0 none 0 0) H rfl rfl fun g2 w3 H k3 _ => ?_
    replace y1 := y1.bel k3
    refine ⟨_, _, _, H.cell 1 1 rfl rfl, ?_⟩
    refine call_of (Parse6_c (h.b.bel H.bel) ho.b h.cb) ?_
    rintro e w4 he
    obtain ⟨k4, A2, c2, rfl, y2, _⟩ := ic_out lz he
    replace H := H.call k4
    replace y1 := y1.bel k4
    refine ⟨_, _, _, _, _, _, _, rfl, ?_⟩
    refine own_mk (mv 0 0 0 none 0 0) H rfl rfl fun g3 w5 H k5 _ => ?_
    replace y1 := y1.bel k5
    replace y2 := y2.bel k5
    refine ifE (fun _ => ?_) (fun h => absurd rfl h)
    replace H : Own w w5 [(g3, 33, mv (icOut o.b).1 (icOut o.b).2.1 (icOut o.b).2.2.1 A2 (icOut o.b).2.2.2.length c2), (g2, 33, mv (icOut o.b).1 (icOut o.b).2.1 (icOut o.b).2.2.1 A1 (icOut o.b).2.2.2.length c1), (g1, 41, ov o Z zn zc C cn cc A n c B m d)] := H
    refine ld_msg (H.bk 1 rfl) ?_
    refine ld_msg (H.bk 0 rfl) ?_
    refine call_of (controls_t y1 y2 (by omega)) ?_
    rintro e w6 ⟨rfl, k6⟩
    exact ⟨_, rfl, rfl, H.bel.trans k6⟩
  refine ifE (fun _ => ?_) (fun _ => ?_)
  · refine ld_msgA (ov_msg (H.bk 0 rfl)) ?_
    refine call_of (BuildI_c ho.q (h.q.bel H.bel)) ?_
    rintro e w2 ⟨k2, he⟩
    replace H := H.call k2
    have l5 := Ic.len o.q o.q.sum
    by_cases h5 : o.q.body.length ≤ 65507
    · rw [if_pos h5] at he
      obtain ⟨A1, c1, rfl, y1, _, _⟩ := he.by
      refine ⟨_, _, _, _, rfl, ?_⟩
      refine ld_msgA (ov_msg (H.bk 0 rfl)) ?_
      refine call_of (Build6_c ho.q (h.q.bel H.bel)) ?_
      rintro e w3 ⟨k3, he⟩
      replace H := H.call k3
      rw [if_pos h5] at he
      obtain ⟨A2, c2, rfl, y2, _, _⟩ := he
      refine ⟨_, _, _, _, rfl, ?_⟩
      refine ifE (fun _ => ?_) (fun h => absurd rfl h)
      refine call_of (same_t (y1.bel k3) y2 (by omega)) ?_
      rintro e w4 ⟨rfl, k4⟩
      exact ⟨_, rfl, rfl, H.bel.trans k4⟩
    · rw [if_neg h5] at he
      subst he
      refine ⟨_, _, _, _, rfl, ?_⟩
      refine ld_msgA (ov_msg (H.bk 0 rfl)) ?_
      refine call_of (Build6_c ho.q (h.q.bel H.bel)) ?_
      rintro e w3 ⟨k3, he⟩
      replace H := H.call k3
      rw [if_neg h5] at he
      subst he
      refine ⟨_, _, _, _, rfl, ?_⟩
      refine ifE (fun _ => ?_) (fun h => absurd rfl h)
      refine call_of (same_t (By.nil _ _) (By.nil _ _) (by omega)) ?_
      rintro e w4 ⟨rfl, k4⟩
      exact ⟨_, rfl, rfl, H.bel.trans k4⟩
  refine ifE (fun _ => ?_) (fun _ => ?_)
  · refine ld_pktA (ov_pkt (H.bk 0 rfl)) ?_
    refine ⟨_, H.cell 0 17 rfl rfl, _, H.cell 0 18 rfl rfl, _, H.cell 0 19 rfl rfl, _, H.cell 0 20 rfl rfl, ?_⟩
    have ql := pkE_len (fun h => fault_len (p := o.p) (t := o.t) (k := o.cd) (x := o.x) (src := o.src) h)
    refine call_of (Fault_c (hg.bel H.bel) ho.p (h.p.bel H.bel) ho.t ho.cd ho.src) ?_
    rintro e w2 ⟨k2, A1, n1, c1, B1, m1, d1, rfl, y1, _, _⟩
    replace H := H.call k2
    refine ⟨_, _, _, _, _, _, _, _, _, _, _, _, _, _, _, _, rfl, ?_⟩
    refine own_mk (pb pz none 0 0 none 0 0) H rfl rfl fun g2 w3 H k3 _ => ?_
    replace y1 := y1.bel k3
    refine ld_pktA (ov_pkt (H.bk 1 rfl)) ?_
    refine ⟨_, H.cell 1 17 rfl rfl, _, H.cell 1 18 rfl rfl, _, H.cell 1 19 rfl rfl, _, H.cell 1 20 rfl rfl, ?_⟩
    refine call_of (Fault6_c ho.p (h.p.bel H.bel) ho.t ho.cd ho.src) ?_
    rintro e w4 ⟨k4, A2, n2, c2, B2, m2, d2, rfl, y2, _, _⟩
    replace H := H.call k4
    replace y1 := y1.bel k4
    refine ⟨_, _, _, _, _, _, _, _, _, _, _, _, _, _, _, _, rfl, ?_⟩
    refine own_mk (pb pz none 0 0 none 0 0) H rfl rfl fun g3 w5 H k5 _ => ?_
    replace y1 := y1.bel k5
    replace y2 := y2.bel k5
    refine ifE (fun _ => ?_) (fun h => absurd rfl h)
    generalize (if faultE o.p o.t o.cd o.x o.src = 0 then faultP o.p o.t o.cd o.x o.src else pz) = q at *
    replace H : Own w w5 [(g3, 39, pb q A2 n2 c2 B2 m2 d2), (g2, 39, pb q A1 n1 c1 B1 m1 d1), (g1, 41, ov o Z zn zc C cn cc A n c B m d)] := H
    refine ld_pkt (H.bk 1 rfl) ?_
    refine ld_pkt (H.bk 0 rfl) ?_
    have e1 := y1.opts.len
    have e2 := y1.body.len
    refine call_of (packets_t y1 y2 (by omega) (by omega)) ?_
    rintro e w6 ⟨rfl, k6⟩
    exact ⟨_, rfl, rfl, H.bel.trans k6⟩
  refine ifE (fun _ => ?_) (fun _ => ?_)
  · refine ld_pktA (ov_pkt (H.bk 0 rfl)) ?_
    have ql := pkE_len (fun h => echo_len (p := o.p) h)
    refine call_of (Echo_c (hg.bel H.bel) ho.p (h.p.bel H.bel)) ?_
    rintro e w2 ⟨k2, A1, n1, c1, B1, m1, d1, rfl, y1, _, _⟩
    replace H := H.call k2
    refine ⟨_, _, _, _, _, _, _, _, _, _, _, _, _, _, _, _, rfl, ?_⟩
    refine own_mk (pb pz none 0 0 none 0 0) H rfl rfl fun g2 w3 H k3 _ => ?_
    replace y1 := y1.bel k3
    refine ld_pktA (ov_pkt (H.bk 1 rfl)) ?_
    refine call_of (Echo6_c ho.p (h.p.bel H.bel)) ?_
    rintro e w4 ⟨k4, A2, n2, c2, B2, m2, d2, rfl, y2, _, _⟩
    replace H := H.call k4
    replace y1 := y1.bel k4
    refine ⟨_, _, _, _, _, _, _, _, _, _, _, _, _, _, _, _, rfl, ?_⟩
    refine own_mk (pb pz none 0 0 none 0 0) H rfl rfl fun g3 w5 H k5 _ => ?_
    replace y1 := y1.bel k5
    replace y2 := y2.bel k5
    refine ifE (fun _ => ?_) (fun h => absurd rfl h)
    generalize (if echoE o.p = 0 then echoP o.p else pz) = q at *
    replace H : Own w w5 [(g3, 39, pb q A2 n2 c2 B2 m2 d2), (g2, 39, pb q A1 n1 c1 B1 m1 d1), (g1, 41, ov o Z zn zc C cn cc A n c B m d)] := H
    refine ld_pkt (H.bk 1 rfl) ?_
    refine ld_pkt (H.bk 0 rfl) ?_
    have e1 := y1.opts.len
    have e2 := y1.body.len
    refine call_of (packets_t y1 y2 (by omega) (by omega)) ?_
    rintro e w6 ⟨rfl, k6⟩
    exact ⟨_, rfl, rfl, H.bel.trans k6⟩
  refine ifE (fun _ => ?_) (fun _ => ?_)
  · refine ld_pktA (ov_pkt (H.bk 0 rfl)) ?_
    have ql := abP_len (p := o.p)
    refine call_of (About_c (hg.bel H.bel) ho.p (h.p.bel H.bel)) ?_
    rintro e w2 ⟨k2, he⟩
    obtain ⟨A1, n1, c1, B1, m1, d1, rfl, y1⟩ := ab_out he
    replace H := H.call k2
    refine ⟨_, _, _, _, _, _, _, _, _, _, _, _, _, _, _, _, rfl, ?_⟩
    refine own_mk hz H rfl rfl fun g2 w3 H k3 _ => ?_
    replace y1 := y1.bel k3
    refine ld_pktA (ov_pkt (H.bk 1 rfl)) ?_
    refine call_of (About6_c ho.p (h.p.bel H.bel)) ?_
    rintro e w4 ⟨k4, he⟩
    obtain ⟨A2, n2, c2, B2, m2, d2, rfl, y2⟩ := ab_out he
    replace H := H.call k4
    replace y1 := y1.bel k4
    refine ⟨_, _, _, _, _, _, _, _, _, _, _, _, _, _, _, _, rfl, ?_⟩
    refine own_mk hz H rfl rfl fun g3 w5 H k5 _ => ?_
    replace y1 := y1.bel k5
    replace y2 := y2.bel k5
    refine ifE (fun _ => ?_) (fun h => absurd rfl h)
    generalize abP o.p = q at *
    replace H : Own w w5 [(g3, 37, pv q A2 n2 c2), (g2, 37, pv q A1 n1 c1), (g1, 41, ov o Z zn zc C cn cc A n c B m d)] := H
    refine ld_head (H.bk 1 rfl) ?_
    refine ld_head (H.bk 0 rfl) ?_
    have e1 := y1.opts.len
    have e2 := y1.body.len
    refine call_of (heads_t y1.opts y2.opts (by omega)) ?_
    rintro e w6 ⟨rfl, k6⟩
    refine ⟨_, rfl, ifB (fun _ => ?_) (fun h => by cases h)⟩
    refine call_of (same_t (y1.body.bel k6) (y2.body.bel k6) (by omega)) ?_
    rintro e w7 ⟨rfl, k7⟩
    exact ⟨_, rfl, rfl, (H.bel.trans k6).trans k7⟩
  · exact ⟨rfl, H.bel⟩
end Go.Proofs.YtchdcdmdbjkihaaDoorS
