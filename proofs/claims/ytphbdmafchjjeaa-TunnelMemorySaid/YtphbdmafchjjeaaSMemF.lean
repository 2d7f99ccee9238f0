/- Package weftlaw7: untouched is true: its first loop, and all of it.
   Conditions: the frame may be sealed; the datagram is not too long. -/
import Derived.Test.YtphbdmafchjjeaaSMemE
namespace Go.Proofs.YtphbdmafchjjeaaS
open Go Go.RowKit Go.Proofs Go.Proofs.YtphbdmafchjjeaaX
set_option maxRecDepth 100000
set_option linter.unusedVariables false
set_option linter.unusedSectionVars false
set_option linter.unusedSimpArgs false

theorem Kept.drop {w0 w : World} {p : Blk} {R : List Blk} {oL : Option Blk} {AL : Option Addr} {N cL : Nat} {C : List (List Int)} (h : Kept w0 w (p :: R) oL AL N cL C) : Kept w0 w R oL AL N cL C := by
  obtain ⟨bs, H, q⟩ := h
  exact ⟨bs, (H.perm ((List.Perm.append_left _ List.perm_middle).trans List.perm_middle)).tail, q⟩
theorem rnd_z {o : Ot} {f : Fr} (h : sErr o f = 0) {body : List Int} (hl : body.length ≤ 65485) : sErr o { f with body := body } = 0 := by
  obtain ⟨h1, h2, h3⟩ := sErr_zero h
  have hl2 := ferr_len h3
  unfold Fr.err at h3
  rw [if_neg (by omega)] at h3
  unfold sErr
  rw [if_neg (by omega), if_neg (by omega)]
  unfold Fr.err
  rw [if_neg (by show ¬ body.length > 65485; omega)]
  exact h3
section
variable {w0 : World} {o : Ot} (ho : o.Fine) {f : Fr} (hf : f.Fine) {src sp dp : Int} (hs : 0 ≤ src ∧ src ≤ 4294967295) (hsp : 0 ≤ sp ∧ sp ≤ 65535) (hdp : 0 ≤ dp ∧ dp ≤ 65535)
include ho hf hs hsp hdp
theorem unt_j3 {g4 g5 g7 : Nat} {A : Option Addr} {n c : Nat} {D : Option Addr} {m d : Nat} {oL : Option Blk} {AL : Option Addr} {i cL : Nat} {C : List (List Int)} {B : Option Addr} {nb cb : Nat} {body : List Int} (r : Rnd w0 o f B nb cb body) (hi : i ≤ 2000) {m0 : Nat} {w : World}
    (K : Kept w0 w [(g7, 33, dv sp dp D m d), (g5, 31, fv f A n c), (g4, 26, ov o)] oL AL (12 * i) cL C) (hP : Pr C)
    (rest : ∀ w' oL' AL' cL' C', Kept w0 w' [(g7, 33, dv sp dp D m d), (g5, 31, fv f A n c), (g4, 26, ov o)] oL' AL' (12 * (i + 1)) cL' C' → Pr C' → weftlaw7_untouched.L1 m0 src g4 g5 g7 AL' (12 * (i + 1)) cL' ((i + 1 : Nat) : Int) w' (Yes w0)) :
    weftlaw7_untouched.J3 m0 src g4 g5 g7 AL (12 * i) cL (i : Int) B nb cb w (Yes w0) := by
  have m4 : ((g4, 26, ov o) : Blk) ∈ [(g7, 33, dv sp dp D m d), (g5, 31, fv f A n c), (g4, 26, ov o)] := List.mem_cons_of_mem _ (List.mem_cons_of_mem _ List.mem_cons_self)
  have m5 : ((g5, 31, fv f A n c) : Blk) ∈ [(g7, 33, dv sp dp D m d), (g5, 31, fv f A n c), (g4, 26, ov o)] := List.mem_cons_of_mem _ List.mem_cons_self
  have m7 : ((g7, 33, dv sp dp D m d) : Blk) ∈ [(g7, 33, dv sp dp D m d), (g5, 31, fv f A n c), (g4, 26, ov o)] := List.mem_cons_self
  generalize [(g7, 33, dv sp dp D m d), (g5, 31, fv f A n c), (g4, 26, ov o)] = R at *
  have hCN : C.length = 12 * i := by
    obtain ⟨bs, _, _, _, h, _⟩ := K
    exact h
  obtain ⟨bs, H, qK⟩ := K
  unfold weftlaw7_untouched.J3; intros
  rw [weftlaw7_untouched.j3_eq]
  refine ld_fr (f := f) (A := A) (n := n) (c := c) (t := 31) (own_mem H (List.mem_append.2 (Or.inr (List.mem_append.2 (Or.inr m5))))) ?_
  refine own_mk (fv fz none 0 0) H rfl rfl fun g12 w1 H k1 _ => ?_
  refine own_set 0 H rfl (Nat.lt_of_lt_of_le (by decide : 13 < 14) (Nat.le_refl 14)) fun w2 H => ?_
  replace H : Own w0 w2 ((g12, 31, fv { f with body := body } B nb cb) :: (oL.toList ++ (bs.map blk ++ R))) := H
  have K : Kept w0 w2 ((g12, 31, fv { f with body := body } B nb cb) :: R) oL AL (12 * i) cL C := ⟨bs, H.perm (List.Perm.symm ((List.Perm.append_left _ List.perm_middle).trans List.perm_middle)), qK⟩
  refine ⟨3, ?_⟩
  have k := unt_l3s (w0 := w0) ho hf hs hsp hdp r (g4 := g4) (g5 := g5) (g7 := g7) m4 m7 (y10 := (i : Int)) (k := 0) (m0 := m0) (q := 2) (by decide) (by omega) K (fun w3 oL3 AL3 cL3 K3 =>
    unt_l3s (w0 := w0) ho hf hs hsp hdp r (g4 := g4) (g5 := g5) (g7 := g7) m4 m7 (y10 := (i : Int)) (k := 1) (m0 := m0) (q := 1) (by decide) (by omega) K3 (fun w4 oL4 AL4 cL4 K4 => by
      unfold weftlaw7_untouched.L3; intros
      rw [weftlaw7_untouched.l3_eq]
      refine ifF (by decide) ?_
      refine let_as ((i + 1 : Nat) : Int) (by rw [w64 (by omega) (by omega)]; omega) ?_
      have K5 := K4.drop
      rw [List.append_assoc] at K5
      exact rest w4 oL4 AL4 cL4 _ K5 (hP.two hCN rfl) ..))
  exact k ..
theorem unt_l1 {g4 g5 g7 : Nat} {A : Option Addr} {n c : Nat} (yA : By w0 A n f.body) (hnc : n ≤ c) (hz : sErr o f = 0) {D : Option Addr} {m d : Nat} {db : List Int} (yD : By w0 D m db) (hbD : Bytes db) (hmd : m ≤ d) (hm : m ≤ 65527) : ∀ (q i : Nat) (w : World) (oL : Option Blk) (AL : Option Addr) (cL : Nat) (C : List (List Int)),
    2001 - i < q → i ≤ 2001 → Kept w0 w [(g7, 33, dv sp dp D m d), (g5, 31, fv f A n c), (g4, 26, ov o)] oL AL (12 * i) cL C → Pr C → weftlaw7_untouched.L1 q src g4 g5 g7 AL (12 * i) cL (i : Int) w (Yes w0) := by
  intro q
  induction q with
  | zero => intro i w oL AL cL C h; omega
  | succ q ih =>
    intro i w oL AL cL C hq hi K hP
    have K0 := K
    obtain ⟨bs, H, qL, hC, hN, hn⟩ := K
    have b7 : Bk w g7 33 (dv sp dp D m d) := own_mem H (List.mem_append.2 (Or.inr (List.mem_append.2 (Or.inr List.mem_cons_self))))
    have b5 : Bk w g5 31 (fv f A n c) := own_mem H (List.mem_append.2 (Or.inr (List.mem_append.2 (Or.inr (List.mem_cons_of_mem _ List.mem_cons_self)))))
    have hd := yD.len
    have ha := yA.len
    have l5 := ferr_len (sErr_zero hz).2.2
    have kj2 : weftlaw7_untouched.J2 AL (12 * i) cL w (Yes w0) := by
      unfold weftlaw7_untouched.J2; intros
      rw [weftlaw7_untouched.j2_eq]
      refine ⟨12 * i + 1, ?_⟩
      have hbs : bs.length = 12 * i := by rw [← hN, ← hC, List.length_map]
      have H2 : Own w0 w (oL.toList ++ bs.map blk) := by
        have h := H
        rw [← List.append_assoc] at h
        exact Own.less (h.perm List.perm_append_comm)
      have k := unt_l2 (w0 := w0) qL hbs (by omega) hn (fun j p p' h1 h2 h3 => hP j p.2 p'.2 (by rw [← hC]; exact map_at h1) (by rw [← hC]; exact map_at h2) h3) (12 * i + 1) 0 w none none 0 [] [] (by omega) (by omega) ⟨H2, fun x hx => by cases hx⟩ RV.none rfl (fun k p hk => by omega)
      exact k ..
    unfold weftlaw7_untouched.L1; intros
    rw [weftlaw7_untouched.l1_eq]
    refine ⟨_, _, _, b7.cell 2 rfl, ?_⟩
    refine ifD (fun h1 => ?_) (fun h1 => ⟨by with_reducible apply kj2⟩)
    refine ifD (fun h2 => ?_) (fun h2 => ⟨by with_reducible apply kj2⟩)
    have kj1 : weftlaw7_untouched.J1 q src g4 g5 g7 AL (12 * i) cL (i : Int) w (Yes w0) := by
      unfold weftlaw7_untouched.J1; intros
      rw [weftlaw7_untouched.j1_eq]
      refine ⟨_, _, _, b5.cell 13 rfl, ?_⟩
      refine ifD (fun h3 => ?_) (fun h3 => ?_)
      · refine ⟨_, _, _, b7.cell 2 rfl, ?_⟩
        refine let_as ((i - 1 : Nat) : Int) (by rw [w64 (by omega) (by omega)]; omega) ?_
        rw [Int.toNat_natCast, Int.toNat_natCast]
        refine ⟨⟨by omega, by omega⟩, ⟨by omega, by omega⟩, ⟨by omega, by omega⟩, ?_⟩
        have y := (yD.take (k := i) (by omega)).cut (k := i - 1) (m := i) (by omega) (Nat.le_refl _)
        have r : Rnd w0 o f (cutA D (i - 1) i 1) (i - (i - 1)) (i - (i - 1)) ((db.take i).drop (i - 1)) := ⟨y, (hbD.take _).drop _, Nat.le_refl _, by rw [y.len]; omega, rnd_z hz (by rw [y.len]; omega)⟩
        have k := unt_j3 (w0 := w0) ho hf hs hsp hdp r (by omega) K0 hP (m0 := q) (fun w' oL' AL' cL' C' K' hP' => ih (i + 1) w' oL' AL' cL' C' (by omega) (by omega) K' hP')
        exact ⟨by with_reducible apply k⟩
      · have r : Rnd w0 o f A n c f.body := ⟨yA, hf.body, hnc, l5, hz⟩
        have k := unt_j3 (w0 := w0) ho hf hs hsp hdp r (by omega) K0 hP (m0 := q) (fun w' oL' AL' cL' C' K' hP' => ih (i + 1) w' oL' AL' cL' C' (by omega) (by omega) K' hP')
        exact ⟨by with_reducible apply k⟩
    exact ⟨by with_reducible apply kj1⟩
end
theorem untouched_t {w : World} {o : Ot} (ho : o.Fine) {f : Fr} (hf : f.Fine) {src sp dp : Int} (hs : 0 ≤ src ∧ src ≤ 4294967295) (hsp : 0 ≤ sp ∧ sp ≤ 65535) (hdp : 0 ≤ dp ∧ dp ≤ 65535)
    {A : Option Addr} {n c : Nat} (yA : By w A n f.body) (hnc : n ≤ c) (hz : sErr o f = 0) {D : Option Addr} {m d : Nat} {db : List Int} (yD : By w D m db) (hbD : Bytes db) (hmd : m ≤ d) (hm : m ≤ 65527) :
    Calls Try.prog 6 #[.agg (ov o).toArray, .agg (fv f A n c).toArray, .int .u32 src, .agg (dv sp dp D m d).toArray] w (Yes w) := by
  refine weftlaw7_untouched.run ?_
  unfold weftlaw7_untouched.s
  refine own_new (l := ov o) (Own.refl w) fun g1 w2 H => ?_
  refine own_new (l := fv f A n c) H fun g3 w4 H => ?_
  refine own_new (l := dv sp dp D m d) H fun g5 w6 H => ?_
  refine ⟨2002, ?_⟩
  have K : Kept w w6 [(g5, 33, dv sp dp D m d), (g3, 31, fv f A n c), (g1, 26, ov o)] none none (12 * 0) 0 [] := ⟨[], H, RV.none, rfl, rfl, fun p hp => by cases hp⟩
  have k := unt_l1 (w0 := w) ho hf hs hsp hdp yA hnc hz yD hbD hmd hm 2002 0 w6 none none 0 [] (by decide) (by decide) K (fun j a b h => by simp at h)
  exact k ..
end Go.Proofs.YtphbdmafchjjeaaS
