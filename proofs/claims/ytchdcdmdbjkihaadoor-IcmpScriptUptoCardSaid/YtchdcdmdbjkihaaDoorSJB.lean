/- Package weftlaw6, script.go: what a call answers, the program's and the document's alike.
   Conditions: the arguments are as a row's arguments are; the package variables are as they were laid. -/
import Derived.Test.YtchdcdmdbjkihaaDoorSJA
namespace Go.Proofs.YtchdcdmdbjkihaaDoorS
open Go Go.RowKit Go.Proofs Go.Proofs.YtchdcdmdbjkihaaDoorX
set_option maxRecDepth 100000
set_option linter.unusedVariables false
set_option linter.unusedSectionVars false
set_option linter.unusedSimpArgs false

/-- What a call answered. -/
structure Tk where
  q : Ic
  p : Pk
  b : List Int
  e : Int
def tv (x0 x1 x2 : Int) (D : Option Addr) (dn dc : Nat) (a0 a1 : Int) (a2 a3 : Bool) (a4 a5 a6 a7 a8 : Int) (A : Option Addr) (n c : Nat) (B : Option Addr) (m d : Nat) (F : Option Addr) (fn fc : Nat) (e : Int) : List Value :=
  mv x0 x1 x2 D dn dc ++ (hv a0 a1 a2 a3 a4 a5 a6 a7 a8 A n c ++ [.slice B m d, .slice F fn fc, .int .i64 e])
def tkv (T : Tk) (D : Option Addr) (dn dc : Nat) (A : Option Addr) (n c : Nat) (B : Option Addr) (m d : Nat) (F : Option Addr) (fn fc : Nat) : List Value := tv T.q.typ T.q.code T.q.rest D dn dc T.p.tos T.p.id T.p.df T.p.mf T.p.off T.p.ttl T.p.proto T.p.src T.p.dst A n c B m d F fn fc T.e
structure TkAt (w : World) (T : Tk) (D : Option Addr) (dn dc : Nat) (A : Option Addr) (n c : Nat) (B : Option Addr) (m d : Nat) (F : Option Addr) (fn fc : Nat) : Prop where
  q : By w D dn T.q.body
  opts : By w A n T.p.opts
  body : By w B m T.p.body
  b : By w F fn T.b
def RetT (w : World) (T : Tk) (e : Ending) (w' : World) : Prop := Bel w w' ∧ ∃ (D : Option Addr) (dn dc : Nat) (A : Option Addr) (n c : Nat) (B : Option Addr) (m d : Nat) (F : Option Addr) (fn fc : Nat), e = .returned (.agg (tkv T D dn dc A n c B m d F fn fc).toArray) ∧ TkAt w' T D dn dc A n c B m d F fn fc ∧
  (0 < dn → Fre w D) ∧ (0 < n → Fre w A) ∧ (0 < m → Fre w B) ∧ (0 < fn → Fre w F)
theorem no0 {w : World} {A : Option Addr} : 0 < 0 → Fre w A := fun h => absurd h (Nat.lt_irrefl 0)
section
variable {w a : World} {L : List Blk}
theorem put_tell (k : Nat) {g : Nat} {t : TypeId} {l : List Value} (h : Own w a L) (hk : L[k]? = some (g, t, l)) (hl : l.length = 17) {x0 x1 x2 : Int} {D : Option Addr} {dn dc : Nat} {a0 a1 : Int} {a2 a3 : Bool} {a4 a5 a6 a7 a8 : Int} {A : Option Addr} {n c : Nat} {B : Option Addr} {m d : Nat} {F : Option Addr} {fn fc : Nat} {e : Int} {Q : Ending → World → Prop}
    (hQ : ∀ w1, Own w w1 (L.set k (g, t, tv x0 x1 x2 D dn dc a0 a1 a2 a3 a4 a5 a6 a7 a8 A n c B m d F fn fc e)) → But g a w1 → Q (.returned (.agg (tv x0 x1 x2 D dn dc a0 a1 a2 a3 a4 a5 a6 a7 a8 A n c B m d F fn fc e).toArray)) w1) :
    May a ⟨g, 0, none⟩ 17 ∧ Let (putCells a ⟨g, 0, none⟩ [.int .u8 x0, .int .u8 x1, .int .u32 x2, .slice D dn dc, .int .u8 a0, .int .u16 a1, .bool a2, .bool a3, .int .i64 a4, .int .u8 a5, .int .u8 a6, .int .u32 a7, .int .u32 a8, .slice A n c, .slice B m d, .slice F fn fc, .int .i64 e] 0) fun w1 =>
      ∃ z0 : Int, ∃ z1 : Int, ∃ z2 : Int, ∃ (D' : Option Addr) (p q : Nat), ∃ x0 : Int, ∃ x1 : Int, ∃ x2 : Bool, ∃ x3 : Bool, ∃ x4 : Int, ∃ x5 : Int, ∃ x6 : Int, ∃ x7 : Int, ∃ x8 : Int, ∃ (C : Option Addr) (i j : Nat), ∃ (G : Option Addr) (i' j' : Nat), ∃ (E : Option Addr) (i2 j2 : Nat), ∃ y1 : Int,
      (17 = 17 ∧ At w1 ⟨g, 0, none⟩ [.int .u8 z0, .int .u8 z1, .int .u32 z2, .slice D' p q, .int .u8 x0, .int .u16 x1, .bool x2, .bool x3, .int .i64 x4, .int .u8 x5, .int .u8 x6, .int .u32 x7, .int .u32 x8, .slice C i j, .slice G i' j', .slice E i2 j2, .int .i64 y1]) ∧
      (Q (.returned (.agg #[.int .u8 z0, .int .u8 z1, .int .u32 z2, .slice D' p q, .int .u8 x0, .int .u16 x1, .bool x2, .bool x3, .int .i64 x4, .int .u8 x5, .int .u8 x6, .int .u32 x7, .int .u32 x8, .slice C i j, .slice G i' j', .slice E i2 j2, .int .i64 y1])) w1) := by
  refine own_putB k h hk rfl (by omega) fun w1 H hb => ?_
  rw [splice_all _ _ (by rw [hl]; rfl)] at H
  have hkl := (List.getElem?_eq_some_iff.1 hk).1
  refine ⟨_, _, _, _, _, _, _, _, _, _, _, _, _, _, _, _, _, _, _, _, _, _, _, _, _, ⟨rfl, (H.bk k (List.getElem?_set_self hkl)).at⟩, ?_⟩
  exact hQ w1 H hb
end
def tz : List Value := tv 0 0 0 none 0 0 0 0 false false 0 0 0 0 0 none 0 0 none 0 0 none 0 0 0
theorem ic_outF {w w' : World} {b : List Int} {n : Nat} {e : Ending} (hn : b.length = n) (h : RetIc w n b e w') : Bel w w' ∧ ∃ A c, e = .returned (.tuple #[.agg (mv (icOut b).1 (icOut b).2.1 (icOut b).2.2.1 A (icOut b).2.2.2.length c).toArray, .int .i64 (icBad b)]) ∧ By w' A (icOut b).2.2.2.length (icOut b).2.2.2 ∧ Fre w A := by
  obtain ⟨k, h⟩ := h
  refine ⟨k, ?_⟩
  by_cases h0 : icBad b = 0
  · rw [if_pos h0] at h
    obtain ⟨A, c, rfl, y, l1, r1⟩ := h
    have e : icOut b = (b.getD 0 0, b.getD 1 0, lg b 4, b.drop 8) := by unfold icOut; rw [if_pos h0]
    rw [e, h0]
    simp only
    have el : (b.drop 8).length = n - 8 := by rw [List.length_drop, hn]
    exact ⟨A, c, by rw [el], by rw [el]; exact y, r1⟩
  · rw [if_neg h0] at h
    have e0 : icOut b = (0, 0, 0, []) := by unfold icOut; rw [if_neg h0]
    rw [e0]
    exact ⟨none, 0, h, By.nil _ _, Fre.nil w⟩
theorem icOut_len {b : List Int} : (icOut b).2.2.2.length ≤ b.length := by
  unfold icOut
  split
  · show (b.drop 8).length ≤ _
    rw [List.length_drop]
    omega
  · exact Nat.zero_le _
theorem ab_outF {w w' : World} {p : Pk} {e : Ending} (h : RetAb w p e w') : ∃ A n c B m d, e = .returned (.tuple #[.agg (pv (abP p) A n c).toArray, .slice B m d, .int .i64 (aboutE p)]) ∧ PkAt w' (abP p) A n c B m d ∧ Fre w A ∧ Fre w B := by
  unfold RetAb at h
  by_cases h0 : aboutE p = 0
  · rw [if_pos h0] at h
    obtain ⟨A1, c1, A2, c2, rfl, y1, y2, l1, l2, r1, r2⟩ := h
    have e : abP p = ⟨(p.body.drop 8).getD 1 0, wd (p.body.drop 8) 4, decide (wd (p.body.drop 8) 6 / 16384 % 2 = 1), decide (wd (p.body.drop 8) 6 / 8192 % 2 = 1), wd (p.body.drop 8) 6 % 8192 * 8, (p.body.drop 8).getD 8 0, (p.body.drop 8).getD 9 0, lg (p.body.drop 8) 12, lg (p.body.drop 8) 16,
      ((p.body.drop 8).take (hlen (p.body.drop 8))).drop 20, ((p.body.drop 8).take (there (p.body.drop 8))).drop (hlen (p.body.drop 8))⟩ := by unfold abP; rw [if_pos h0]
    rw [e, h0]
    exact ⟨A1, _, c1, A2, _, c2, rfl, ⟨y1, y2, l1, l2⟩, r1, r2⟩
  · rw [if_neg h0] at h
    have e0 : abP p = pz := by unfold abP; rw [if_neg h0]
    rw [e0]
    exact ⟨none, 0, 0, none, 0, 0, h, pz_at w', Fre.nil w, Fre.nil w⟩
def icB (q : Ic) : List Int := if q.body.length ≤ 65507 then q.bytes q.sum else []
def icE (q : Ic) : Int := if q.body.length ≤ 65507 then 0 else 37
/-- The answer to a step. -/
def tldOf (o : Op6) : Tk :=
  if o.k = 1 then ⟨⟨(icOut o.b).1, (icOut o.b).2.1, (icOut o.b).2.2.1, (icOut o.b).2.2.2⟩, pz, [], icBad o.b⟩ else if o.k = 2 then ⟨icz, pz, icB o.q, icE o.q⟩
  else if o.k = 3 then ⟨icz, if faultE o.p o.t o.cd o.x o.src = 0 then faultP o.p o.t o.cd o.x o.src else pz, [], faultE o.p o.t o.cd o.x o.src⟩ else if o.k = 4 then ⟨icz, if echoE o.p = 0 then echoP o.p else pz, [], echoE o.p⟩
  else if o.k = 5 then ⟨icz, { abP o.p with body := [] }, (abP o.p).body, aboutE o.p⟩ else ⟨icz, pz, [], 0⟩
theorem tld_len {o : Op6} (ho : o.Fine) (hs : o.Sm) : (tldOf o).q.body.length ≤ 1000000000 ∧ (tldOf o).p.opts.length ≤ 1000000000 ∧ (tldOf o).p.body.length ≤ 1000000000 ∧ (tldOf o).b.length ≤ 1000000000 := by
  have h1 := hs.b
  have h2 := icOut_len (b := o.b)
  have z1 : pz.opts.length ≤ 1000000000 ∧ pz.body.length ≤ 1000000000 := ⟨Nat.zero_le _, Nat.zero_le _⟩
  have z2 : icz.body.length ≤ 1000000000 := Nat.zero_le _
  have q1 := pkE_len (fun h => fault_len (p := o.p) (t := o.t) (k := o.cd) (x := o.x) (src := o.src) h)
  have q2 := pkE_len (fun h => echo_len (p := o.p) h)
  have q3 := abP_len (p := o.p)
  have z3 : ([] : List Int).length ≤ 1000000000 := Nat.zero_le _
  unfold tldOf
  split
  · exact ⟨by show (icOut o.b).2.2.2.length ≤ _; omega, z1.1, z1.2, z3⟩
  split
  · refine ⟨z2, z1.1, z1.2, ?_⟩
    show (icB o.q).length ≤ _
    unfold icB
    split
    · rw [Ic.len]
      omega
    · exact Nat.zero_le _
  split
  · exact ⟨z2, by show (if faultE o.p o.t o.cd o.x o.src = 0 then faultP o.p o.t o.cd o.x o.src else pz).opts.length ≤ _; omega, by show (if faultE o.p o.t o.cd o.x o.src = 0 then faultP o.p o.t o.cd o.x o.src else pz).body.length ≤ _; omega, z3⟩
  split
  · exact ⟨z2, by show (if echoE o.p = 0 then echoP o.p else pz).opts.length ≤ _; omega, by show (if echoE o.p = 0 then echoP o.p else pz).body.length ≤ _; omega, z3⟩
  split
  · exact ⟨z2, by show (abP o.p).opts.length ≤ _; omega, z3, by show (abP o.p).body.length ≤ _; omega⟩
  exact ⟨z2, z1.1, z1.2, z3⟩
theorem RetT.zero {w a : World} {L : List Blk} (k : Nat) {g : Nat} {t : TypeId} {l : List Value} (h : Own w a L) (hk : L[k]? = some (g, t, l)) (hl : l.length = 17) {w1 : World} (H : Own w w1 (L.set k (g, t, tz))) : RetT w ⟨icz, pz, [], 0⟩ (.returned (.agg tz.toArray)) w1 :=
  ⟨H.bel, none, 0, 0, none, 0, 0, none, 0, 0, none, 0, 0, rfl, ⟨By.nil _ _, By.nil _ _, By.nil _ _, By.nil _ _⟩, no0, no0, no0, no0⟩
section
variable {w : World} {o : Op6} {Z : Option Addr} {zn zc : Nat} {C : Option Addr} {cn cc : Nat} {A : Option Addr} {n c : Nat} {B : Option Addr} {m d : Nat}
theorem ran_t (hg : Gl w) (ho : o.Fine) (h : OpAt w o Z zn zc C cn cc A n c B m d) : Calls Tryd.prog 15 #[.agg (ov o Z zn zc C cn cc A n c B m d).toArray] w (RetT w (tldOf o)) := by
  refine weftlaw6_ran.run ?_
  unfold weftlaw6_ran.s
  have lz := h.b.len
  refine own_new (l := ov o Z zn zc C cn cc A n c B m d) (Own.refl w) fun g1 w1 H => ?_
  refine own_new (l := tz) H fun g3 w2 H => ?_
  refine ⟨_, H.cell 1 0 rfl rfl, ?_⟩
  unfold tldOf
  refine ifE (fun hk => ?_) (fun hk => ?_)
  · rw [if_pos hk]
    refine ⟨_, _, _, H.cell 1 1 rfl rfl, ?_⟩
    refine call_of (Parse_c (h.b.bel H.bel) ho.b h.cb) ?_
    rintro e w3 he
    obtain ⟨k3, A1, c1, rfl, y1, f1⟩ := ic_outF lz he
    have o1 := H.old 0 rfl f1
    replace f1 := f1.le H.bel
    replace H := H.call k3
    refine ⟨_, _, _, _, _, _, _, rfl, ?_⟩
    refine own_mk (mv 0 0 0 none 0 0) H rfl rfl fun g4 w4 H k4 _ => ?_
    replace y1 := y1.bel k4
    replace H : Own w w4 [(g4, 33, mv (icOut o.b).1 (icOut o.b).2.1 (icOut o.b).2.2.1 A1 (icOut o.b).2.2.2.length c1), (g3, 49, tz), (g1, 41, ov o Z zn zc C cn cc A n c B m d)] := H
    refine ld_msg (H.bk 0 rfl) ?_
    refine put_tell 1 H rfl rfl fun w5 H u => ?_
    exact ⟨H.bel, A1, _, c1, none, 0, 0, none, 0, 0, none, 0, 0, rfl, ⟨y1.but u o1, By.nil _ _, By.nil _ _, By.nil _ _⟩, fun _ => f1, no0, no0, no0⟩
  rw [if_neg hk]
  refine ifE (fun hk => ?_) (fun hk => ?_)
  · rw [if_pos hk]
    refine ld_msgA (ov_msg (H.bk 1 rfl)) ?_
    refine call_of (BuildI_c ho.q (h.q.bel H.bel)) ?_
    rintro e w3 ⟨k3, he⟩
    have H' := H
    replace H := H.call k3
    unfold icB icE
    by_cases h5 : o.q.body.length ≤ 65507
    · rw [if_pos h5] at he
      obtain ⟨A1, c1, rfl, y1, f1, _⟩ := he.by
      have o1 := H'.old 0 rfl f1
      replace f1 := f1.le H'.bel
      refine ⟨_, _, _, _, rfl, ?_⟩
      rw [if_pos h5, if_pos h5]
      refine put_tell 0 H rfl rfl fun w5 H u => ?_
      exact ⟨H.bel, none, 0, 0, none, 0, 0, none, 0, 0, A1, _, c1, rfl, ⟨By.nil _ _, By.nil _ _, By.nil _ _, y1.but u o1⟩, no0, no0, no0, fun _ => f1⟩
    · rw [if_neg h5] at he
      subst he
      refine ⟨_, _, _, _, rfl, ?_⟩
      rw [if_neg h5, if_neg h5]
      refine put_tell 0 H rfl rfl fun w5 H u => ?_
      exact ⟨H.bel, none, 0, 0, none, 0, 0, none, 0, 0, none, 0, 0, rfl, ⟨By.nil _ _, By.nil _ _, By.nil _ _, By.nil _ _⟩, no0, no0, no0, no0⟩
  rw [if_neg hk]
  refine ifE (fun hk => ?_) (fun hk => ?_)
  · rw [if_pos hk]
    refine ld_pktA (ov_pkt (H.bk 1 rfl)) ?_
    refine ⟨_, H.cell 1 17 rfl rfl, _, H.cell 1 18 rfl rfl, _, H.cell 1 19 rfl rfl, _, H.cell 1 20 rfl rfl, ?_⟩
    refine call_of (Fault_c (hg.bel H.bel) ho.p (h.p.bel H.bel) ho.t ho.cd ho.src) ?_
    rintro e w3 ⟨k3, A1, n1, c1, B1, m1, d1, rfl, y1, f1, f2⟩
    have o1 := H.old 0 rfl f1
    have o2 := H.old 0 rfl f2
    replace f1 := f1.le H.bel
    replace f2 := f2.le H.bel
    replace H := H.call k3
    refine ⟨_, _, _, _, _, _, _, _, _, _, _, _, _, _, _, _, rfl, ?_⟩
    generalize (if faultE o.p o.t o.cd o.x o.src = 0 then faultP o.p o.t o.cd o.x o.src else pz) = q at *
    refine own_mk (pb pz none 0 0 none 0 0) H rfl rfl fun g4 w4 H k4 _ => ?_
    replace y1 := y1.bel k4
    replace H : Own w w4 [(g4, 39, pb q A1 n1 c1 B1 m1 d1), (g3, 49, tz), (g1, 41, ov o Z zn zc C cn cc A n c B m d)] := H
    refine ld_pkt (H.bk 0 rfl) ?_
    refine put_tell 1 H rfl rfl fun w5 H u => ?_
    exact ⟨H.bel, none, 0, 0, A1, n1, c1, B1, m1, d1, none, 0, 0, rfl, ⟨By.nil _ _, y1.opts.but u o1, y1.body.but u o2, By.nil _ _⟩, no0, fun _ => f1, fun _ => f2, no0⟩
  rw [if_neg hk]
  refine ifE (fun hk => ?_) (fun hk => ?_)
  · rw [if_pos hk]
    refine ld_pktA (ov_pkt (H.bk 1 rfl)) ?_
    refine call_of (Echo_c (hg.bel H.bel) ho.p (h.p.bel H.bel)) ?_
    rintro e w3 ⟨k3, A1, n1, c1, B1, m1, d1, rfl, y1, f1, f2⟩
    have o1 := H.old 0 rfl f1
    have o2 := H.old 0 rfl f2
    replace f1 := f1.le H.bel
    replace f2 := f2.le H.bel
    replace H := H.call k3
    refine ⟨_, _, _, _, _, _, _, _, _, _, _, _, _, _, _, _, rfl, ?_⟩
    generalize (if echoE o.p = 0 then echoP o.p else pz) = q at *
    refine own_mk (pb pz none 0 0 none 0 0) H rfl rfl fun g4 w4 H k4 _ => ?_
    replace y1 := y1.bel k4
    replace H : Own w w4 [(g4, 39, pb q A1 n1 c1 B1 m1 d1), (g3, 49, tz), (g1, 41, ov o Z zn zc C cn cc A n c B m d)] := H
    refine ld_pkt (H.bk 0 rfl) ?_
    refine put_tell 1 H rfl rfl fun w5 H u => ?_
    exact ⟨H.bel, none, 0, 0, A1, n1, c1, B1, m1, d1, none, 0, 0, rfl, ⟨By.nil _ _, y1.opts.but u o1, y1.body.but u o2, By.nil _ _⟩, no0, fun _ => f1, fun _ => f2, no0⟩
  rw [if_neg hk]
  refine ifE (fun hk => ?_) (fun hk => ?_)
  · rw [if_pos hk]
    refine ld_pktA (ov_pkt (H.bk 1 rfl)) ?_
    refine call_of (About_c (hg.bel H.bel) ho.p (h.p.bel H.bel)) ?_
    rintro e w3 ⟨k3, he⟩
    obtain ⟨A1, n1, c1, B1, m1, d1, rfl, y1, f1, f2⟩ := ab_outF he
    have o1 := H.old 0 rfl f1
    have o2 := H.old 0 rfl f2
    replace f1 := f1.le H.bel
    replace f2 := f2.le H.bel
    replace H := H.call k3
    refine ⟨_, _, _, _, _, _, _, _, _, _, _, _, _, _, _, _, rfl, ?_⟩
    generalize abP o.p = q at *
    refine own_mk hz H rfl rfl fun g4 w4 H k4 _ => ?_
    replace y1 := y1.bel k4
    replace H : Own w w4 [(g4, 37, pv q A1 n1 c1), (g3, 49, tz), (g1, 41, ov o Z zn zc C cn cc A n c B m d)] := H
    refine ld_head (H.bk 0 rfl) ?_
    refine put_tell 1 H rfl rfl fun w5 H u => ?_
    exact ⟨H.bel, none, 0, 0, A1, n1, c1, none, 0, 0, B1, m1, d1, rfl, ⟨By.nil _ _, y1.opts.but u o1, By.nil _ _, y1.body.but u o2⟩, no0, fun _ => f1, no0, fun _ => f2⟩
  rw [if_neg hk]
  refine put_tell 0 H rfl rfl fun w5 H u => ?_
  exact ⟨H.bel, none, 0, 0, none, 0, 0, none, 0, 0, none, 0, 0, rfl, ⟨By.nil _ _, By.nil _ _, By.nil _ _, By.nil _ _⟩, no0, no0, no0, no0⟩
theorem meant_t (ho : o.Fine) (hs : o.Sm) (h0 : OpAt w o Z zn zc C cn cc A n c B m d) : Calls Tryd.prog 16 #[.agg (ov o Z zn zc C cn cc A n c B m d).toArray] w (RetT w (tldOf o)) := by
  refine weftlaw6_meant.run ?_
  unfold weftlaw6_meant.s
  refine own_new (l := ov o Z zn zc C cn cc A n c B m d) (Own.refl w) fun g1 w1 H => ?_
  refine own_new (l := tz) H fun g3 w2 H => ?_
  refine ⟨_, _, _, _, _, _, _, _, _, _, _, _, _, _, _, _, _, _, _, _, _, _, _, _, _, _, _, _, _, ⟨rfl, (H.bk 1 rfl).at⟩, ?_⟩
  refine call_of (alone_t hs (h0.bel H.bel)) ?_
  rintro e w3 ⟨Z', zn', zc', C', cn', cc', A', n', c', B', m', d', os, rfl, HX, xo⟩
  have h : OpAt w3 o Z' zn' zc' C' cn' cc' A' n' c' B' m' d' := xo6_at (R := []) (by rw [List.append_nil]; exact HX) xo
  replace H := H.call HX.bel
  refine ⟨_, _, _, _, _, _, _, _, _, _, _, _, _, _, _, _, _, _, _, _, _, _, _, _, _, _, _, _, _, rfl, ?_⟩
  refine own_mk (ov zop none 0 0 none 0 0 none 0 0 none 0 0) H rfl rfl fun g4 w4 H k4 _ => ?_
  replace h := h.bel k4
  replace H : Own w w4 [(g4, 41, ov o Z' zn' zc' C' cn' cc' A' n' c' B' m' d'), (g3, 49, tz), (g1, 41, ov o Z zn zc C cn cc A n c B m d)] := H
  have lz := h.b.len
  refine ⟨_, H.cell 0 0 rfl rfl, ?_⟩
  unfold tldOf
  refine ifE (fun hk => ?_) (fun hk => ?_)
  · rw [if_pos hk]
    refine ⟨_, _, _, H.cell 0 1 rfl rfl, ?_⟩
    refine call_of (Parse6_c h.b ho.b h.cb) ?_
    rintro e w5 he
    obtain ⟨k5, A1, c1, rfl, y1, f1⟩ := ic_outF lz he
    have o1 := H.old 1 rfl f1
    replace f1 := f1.le H.bel
    replace H := H.call k5
    refine ⟨_, _, _, _, _, _, _, rfl, ?_⟩
    refine own_mk (mv 0 0 0 none 0 0) H rfl rfl fun g5 w6 H k6 _ => ?_
    replace y1 := y1.bel k6
    replace H : Own w w6 [(g5, 33, mv (icOut o.b).1 (icOut o.b).2.1 (icOut o.b).2.2.1 A1 (icOut o.b).2.2.2.length c1), (g4, 41, ov o Z' zn' zc' C' cn' cc' A' n' c' B' m' d'), (g3, 49, tz), (g1, 41, ov o Z zn zc C cn cc A n c B m d)] := H
    refine ld_msg (H.bk 0 rfl) ?_
    refine put_tell 2 H rfl rfl fun w7 H u => ?_
    exact ⟨H.bel, A1, _, c1, none, 0, 0, none, 0, 0, none, 0, 0, rfl, ⟨y1.but u o1, By.nil _ _, By.nil _ _, By.nil _ _⟩, fun _ => f1, no0, no0, no0⟩
  rw [if_neg hk]
  refine ifE (fun hk => ?_) (fun hk => ?_)
  · rw [if_pos hk]
    refine ld_msgA (ov_msg (H.bk 0 rfl)) ?_
    refine call_of (Build6_c ho.q h.q) ?_
    rintro e w5 ⟨k5, he⟩
    have H' := H
    replace H := H.call k5
    unfold icB icE
    by_cases h5 : o.q.body.length ≤ 65507
    · rw [if_pos h5] at he
      obtain ⟨A1, c1, rfl, y1, f1, _⟩ := he
      have o1 := H'.old 1 rfl f1
      replace f1 := f1.le H'.bel
      refine ⟨_, _, _, _, rfl, ?_⟩
      rw [if_pos h5, if_pos h5]
      refine put_tell 1 H rfl rfl fun w7 H u => ?_
      exact ⟨H.bel, none, 0, 0, none, 0, 0, none, 0, 0, A1, _, c1, rfl, ⟨By.nil _ _, By.nil _ _, By.nil _ _, y1.but u o1⟩, no0, no0, no0, fun _ => f1⟩
    · rw [if_neg h5] at he
      subst he
      refine ⟨_, _, _, _, rfl, ?_⟩
      rw [if_neg h5, if_neg h5]
      refine put_tell 1 H rfl rfl fun w7 H u => ?_
      exact ⟨H.bel, none, 0, 0, none, 0, 0, none, 0, 0, none, 0, 0, rfl, ⟨By.nil _ _, By.nil _ _, By.nil _ _, By.nil _ _⟩, no0, no0, no0, no0⟩
  rw [if_neg hk]
  refine ifE (fun hk => ?_) (fun hk => ?_)
  · rw [if_pos hk]
    refine ld_pktA (ov_pkt (H.bk 0 rfl)) ?_
    refine ⟨_, H.cell 0 17 rfl rfl, _, H.cell 0 18 rfl rfl, _, H.cell 0 19 rfl rfl, _, H.cell 0 20 rfl rfl, ?_⟩
    refine call_of (Fault6_c ho.p h.p ho.t ho.cd ho.src) ?_
    rintro e w5 ⟨k5, A1, n1, c1, B1, m1, d1, rfl, y1, f1, f2⟩
    have o1 := H.old 1 rfl f1
    have o2 := H.old 1 rfl f2
    replace f1 := f1.le H.bel
    replace f2 := f2.le H.bel
    replace H := H.call k5
    refine ⟨_, _, _, _, _, _, _, _, _, _, _, _, _, _, _, _, rfl, ?_⟩
    generalize (if faultE o.p o.t o.cd o.x o.src = 0 then faultP o.p o.t o.cd o.x o.src else pz) = q at *
    refine own_mk (pb pz none 0 0 none 0 0) H rfl rfl fun g5 w6 H k6 _ => ?_
    replace y1 := y1.bel k6
    replace H : Own w w6 [(g5, 39, pb q A1 n1 c1 B1 m1 d1), (g4, 41, ov o Z' zn' zc' C' cn' cc' A' n' c' B' m' d'), (g3, 49, tz), (g1, 41, ov o Z zn zc C cn cc A n c B m d)] := H
    refine ld_pkt (H.bk 0 rfl) ?_
    refine put_tell 2 H rfl rfl fun w7 H u => ?_
    exact ⟨H.bel, none, 0, 0, A1, n1, c1, B1, m1, d1, none, 0, 0, rfl, ⟨By.nil _ _, y1.opts.but u o1, y1.body.but u o2, By.nil _ _⟩, no0, fun _ => f1, fun _ => f2, no0⟩
  rw [if_neg hk]
  refine ifE (fun hk => ?_) (fun hk => ?_)
  · rw [if_pos hk]
    refine ld_pktA (ov_pkt (H.bk 0 rfl)) ?_
    refine call_of (Echo6_c ho.p h.p) ?_
    rintro e w5 ⟨k5, A1, n1, c1, B1, m1, d1, rfl, y1, f1, f2⟩
    have o1 := H.old 1 rfl f1
    have o2 := H.old 1 rfl f2
    replace f1 := f1.le H.bel
    replace f2 := f2.le H.bel
    replace H := H.call k5
    refine ⟨_, _, _, _, _, _, _, _, _, _, _, _, _, _, _, _, rfl, ?_⟩
    generalize (if echoE o.p = 0 then echoP o.p else pz) = q at *
    refine own_mk (pb pz none 0 0 none 0 0) H rfl rfl fun g5 w6 H k6 _ => ?_
    replace y1 := y1.bel k6
    replace H : Own w w6 [(g5, 39, pb q A1 n1 c1 B1 m1 d1), (g4, 41, ov o Z' zn' zc' C' cn' cc' A' n' c' B' m' d'), (g3, 49, tz), (g1, 41, ov o Z zn zc C cn cc A n c B m d)] := H
    refine ld_pkt (H.bk 0 rfl) ?_
    refine put_tell 2 H rfl rfl fun w7 H u => ?_
    exact ⟨H.bel, none, 0, 0, A1, n1, c1, B1, m1, d1, none, 0, 0, rfl, ⟨By.nil _ _, y1.opts.but u o1, y1.body.but u o2, By.nil _ _⟩, no0, fun _ => f1, fun _ => f2, no0⟩
  rw [if_neg hk]
  refine ifE (fun hk => ?_) (fun hk => ?_)
  · rw [if_pos hk]
    refine ld_pktA (ov_pkt (H.bk 0 rfl)) ?_
    refine call_of (About6_c ho.p h.p) ?_
    rintro e w5 ⟨k5, he⟩
    obtain ⟨A1, n1, c1, B1, m1, d1, rfl, y1, f1, f2⟩ := ab_outF he
    have o1 := H.old 1 rfl f1
    have o2 := H.old 1 rfl f2
    replace f1 := f1.le H.bel
    replace f2 := f2.le H.bel
    replace H := H.call k5
    refine ⟨_, _, _, _, _, _, _, _, _, _, _, _, _, _, _, _, rfl, ?_⟩
    generalize abP o.p = q at *
    refine own_mk hz H rfl rfl fun g5 w6 H k6 _ => ?_
    replace y1 := y1.bel k6
    replace H : Own w w6 [(g5, 37, pv q A1 n1 c1), (g4, 41, ov o Z' zn' zc' C' cn' cc' A' n' c' B' m' d'), (g3, 49, tz), (g1, 41, ov o Z zn zc C cn cc A n c B m d)] := H
    refine ld_head (H.bk 0 rfl) ?_
    refine put_tell 2 H rfl rfl fun w7 H u => ?_
    exact ⟨H.bel, none, 0, 0, A1, n1, c1, none, 0, 0, B1, m1, d1, rfl, ⟨By.nil _ _, y1.opts.but u o1, By.nil _ _, y1.body.but u o2⟩, no0, fun _ => f1, no0, fun _ => f2⟩
  rw [if_neg hk]
  refine put_tell 1 H rfl rfl fun w7 H u => ?_
  exact ⟨H.bel, none, 0, 0, none, 0, 0, none, 0, 0, none, 0, 0, rfl, ⟨By.nil _ _, By.nil _ _, By.nil _ _, By.nil _ _⟩, no0, no0, no0, no0⟩
end
end Go.Proofs.YtchdcdmdbjkihaaDoorS
