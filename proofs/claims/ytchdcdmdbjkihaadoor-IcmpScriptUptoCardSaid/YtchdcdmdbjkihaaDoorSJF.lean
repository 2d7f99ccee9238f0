/- Package weftlaw6: IcmpScript.
   Conditions: the script and the turns are as a row's arguments are; the package variables are as they were laid. -/
import Derived.Test.YtchdcdmdbjkihaaDoorSJE
namespace Go.Proofs.YtchdcdmdbjkihaaDoorS
open Go Go.RowKit Go.Proofs Go.Proofs.YtchdcdmdbjkihaaDoorX
set_option maxRecDepth 100000
set_option linter.unusedVariables false
set_option linter.unusedSectionVars false
set_option linter.unusedSimpArgs false

/-- The slice A[:n] holds numbers. -/
def Nums (w : World) (A : Option Addr) (n : Nat) : Prop := 0 < n → ∃ a, A = some a ∧ ∀ i, i < n → ∃ x : Int, w.cell? (a.add i) = some (.int .i64 x) ∧ (-9223372036854775808 ≤ x ∧ x ≤ 9223372036854775807)
/-- The slice A[:n] holds steps. -/
def ScrS (w : World) (A : Option Addr) (n : Nat) : Prop := 0 < n → ∃ a, A = some a ∧ ∀ i, i < n → ∃ (o : Op6) (Z : Option Addr) (zn zc : Nat) (C : Option Addr) (cn cc : Nat) (A : Option Addr) (n c : Nat) (B : Option Addr) (m d : Nat),
  At w (a.add (i * 21)) (ov o Z zn zc C cn cc A n c B m d) ∧ o.Fine ∧ OpAt w o Z zn zc C cn cc A n c B m d ∧ o.Sm
theorem At.bel6 {w w' : World} {a : Addr} {l : List Value} (h : At w a l) (k : Bel w w') : At w' a l := fun j u hu => k.cellb (h j u hu)
theorem pR {α : Type} (a : α) (L W Q : List α) : (a :: (L ++ (W ++ (Q ++ [])))).Perm (Q ++ (a :: (L ++ W))) := by
  rw [List.append_nil, ← List.append_assoc L W]
  exact (List.perm_append_comm.cons a).trans List.perm_middle.symm
theorem pX {α : Type} (a : α) (L W Q Q' : List α) : (Q' ++ (a :: (L ++ (W ++ (Q ++ []))))).Perm (Q ++ (a :: (L ++ (W ++ (Q' ++ []))))) := by
  have e : ∀ Q : List α, a :: (L ++ (W ++ (Q ++ []))) = (a :: (L ++ W)) ++ Q := fun Q => by simp
  rw [e, e]
  refine List.perm_append_comm.trans ?_
  rw [List.append_assoc]
  exact List.perm_append_comm_assoc _ _ _
section
variable {w0 : World} (hg : Gl w0) {X : Option Addr} {xn xc : Nat} {X' : Option Addr} {xn' xc' : Nat}
include hg
theorem Script_j2 (hS : ScrS w0 X xn) (hT : Nums w0 X' xn') {m0 i : Nat} (hi : i < 10000000) (hin : i < xn)
    (hk : ∀ (AL : Option Addr) (k cL : Nat) (AW : Option Addr) (k' cW : Nat) (g7 : Nat) (held : Int) (w : World), Iv w0 w g7 AL k cL AW k' cW held (i + 1) → weftlaw6_IcmpScript.L1 m0 X xn xc X' xn' xc' AL k cL AW k' cW g7 held ((i + 1 : Nat) : Int) w (Yes w0))
    {AL : Option Addr} {k cL : Nat} {AW : Option Addr} {k' cW : Nat} {g7 : Nat} {held : Int} {w : World} (I : Iv w0 w g7 AL k cL AW k' cW held i) {b : Bool} (hb : b = true → i < xn') : weftlaw6_IcmpScript.J2 m0 X xn xc X' xn' xc' AL k cL AW k' cW g7 held (i : Int) b w (Yes w0) := by
  obtain ⟨oL, oW, es, o, Z, zn, zc, C, cn, cc, A, n, c, B, m, d, os, cs, H, qL, qW, hes, rfl, hok, xo, ho, hs, h1, h2, h3⟩ := I
  unfold weftlaw6_IcmpScript.J2; intros
  rw [weftlaw6_IcmpScript.j2_eq]
  refine ifB (fun hbt => ?_) (fun _ => ?_)
  · have hix := hb hbt
    obtain ⟨a, ea, hc⟩ := hT (by omega)
    obtain ⟨x, hx1, hx2⟩ := hc i hix
    refine draws (fun w' => ∃ M cs', OF w0 w' ((g7, 41, ov o Z zn zc C cn cc A n c B m d) :: M) cs') ⟨_, _, H.call (Bel.refl w).drew⟩ fun w2 e2 => ?_
    replace H := H.call (Bel.refl w).drew
    rw [← e2] at H
    refine ⟨_, _, _, _, _, _, _, _, _, _, _, _, _, _, _, _, _, _, _, _, _, _, _, _, _, _, _, _, _, ⟨rfl, fun w' ⟨M, cs', h⟩ => (h.own.bk 0 rfl).at⟩, ?_⟩
    refine ⟨a, ea, ⟨by omega, by omega⟩, x, fun w' ⟨M, cs', h⟩ => by rw [Int.toNat_natCast]; exact h.own.bel.cellb hx1, ?_⟩
    refine call_of (other_t (R := (g7, 41, ov o Z zn zc C cn cc A n c B m d) :: (oL.toList ++ oW.toList)) (H.perm (pR _ _ _ _)) xo ho hs hx2) ?_
    rintro e w3 ⟨o', Z', zn', zc', C', cn', cc', A', n', c', B', m', d', os', rfl, H3, xo', ho', hs'⟩
    refine ⟨_, _, _, _, _, _, _, _, _, _, _, _, _, _, _, _, _, _, _, _, _, _, _, _, _, _, _, _, _, rfl, ?_⟩
    have H4 := H3.perm (pR _ oL.toList oW.toList (Bls os')).symm
    refine ⟨⟨_, _, H4⟩, ?_⟩
    refine of_put 0 H4 rfl rfl (Nat.le_refl 21) fun w4 H5 => ?_
    rw [splice_all _ _ (by rfl)] at H5
    have kk := Script_j3 hg (xc := xc) (xc' := xc') (X := X) (X' := X') (xn := xn) (xn' := xn') hi hk ⟨oL, oW, es, o', Z', zn', zc', C', cn', cc', A', n', c', B', m', d', os', cs, H5, qL, qW, hes, rfl, hok, xo', ho', hs', h1, h2, h3⟩
    exact ⟨by with_reducible apply kk⟩
  · obtain ⟨a, ea, hc⟩ := hS (by omega)
    obtain ⟨o', Z', zn', zc', C', cn', cc', A', n', c', B', m', d', hat, hof, hoa, hsm⟩ := hc i hin
    refine ⟨a, ea, ⟨by omega, by omega⟩, ?_⟩
    rw [Int.toNat_natCast]
    refine ⟨_, _, _, _, _, _, _, _, _, _, _, _, _, _, _, _, _, _, _, _, _, _, _, _, _, _, _, _, _, ⟨rfl, At.bel6 hat H.own.bel⟩, ?_⟩
    refine call_of (alone_t hsm (hoa.bel H.own.bel)) ?_
    rintro e w3 ⟨Z2, zn2, zc2, C2, cn2, cc2, A2, n2, c2, B2, m2, d2, os2, rfl, HX, xo2⟩
    refine ⟨_, _, _, _, _, _, _, _, _, _, _, _, _, _, _, _, _, _, _, _, _, _, _, _, _, _, _, _, _, rfl, ?_⟩
    have H4 := OF.less ((H.join HX).perm (pX _ oL.toList oW.toList (Bls os) (Bls os2)))
    refine of_put 0 H4 rfl rfl (Nat.le_refl 21) fun w4 H5 => ?_
    rw [splice_all _ _ (by rfl)] at H5
    have kk := Script_j3 hg (xc := xc) (xc' := xc') (X := X) (X' := X') (xn := xn) (xn' := xn') hi hk ⟨oL, oW, es, o', Z2, zn2, zc2, C2, cn2, cc2, A2, n2, c2, B2, m2, d2, os2, cs, H5, qL, qW, hes, rfl, hok, xo2, hof, hsm, h1, h2, h3⟩
    exact ⟨by with_reducible apply kk⟩
theorem Script_l1 (hS : ScrS w0 X xn) (hT : Nums w0 X' xn') (hn : xn ≤ 1048576) : ∀ (q i : Nat) (AL : Option Addr) (k cL : Nat) (AW : Option Addr) (k' cW : Nat) (g7 : Nat) (held : Int) (w : World), xn - i < q → i ≤ xn → Iv w0 w g7 AL k cL AW k' cW held i →
    weftlaw6_IcmpScript.L1 q X xn xc X' xn' xc' AL k cL AW k' cW g7 held (i : Int) w (Yes w0) := by
  intro q
  induction q with
  | zero => intro i AL k cL AW k' cW g7 held w h; omega
  | succ q ih =>
    intro i AL k cL AW k' cW g7 held w hq hi I
    unfold weftlaw6_IcmpScript.L1; intros
    rw [weftlaw6_IcmpScript.l1_eq]
    refine ifD (fun h1 => ?_) (fun h1 => ?_)
    · have next : ∀ (AL : Option Addr) (k cL : Nat) (AW : Option Addr) (k' cW : Nat) (g7 : Nat) (held : Int) (w : World), Iv w0 w g7 AL k cL AW k' cW held (i + 1) → weftlaw6_IcmpScript.L1 q X xn xc X' xn' xc' AL k cL AW k' cW g7 held ((i + 1 : Nat) : Int) w (Yes w0) :=
        fun AL k cL AW k' cW g7 held w I => ih (i + 1) AL k cL AW k' cW g7 held w (by omega) (by omega) I
      have no := Script_j2 hg (xc := xc) (xc' := xc') hS hT (by omega) (by omega) next I (b := false) (fun h => by cases h)
      refine ifD (fun h2 => ?_) (fun h2 => ⟨by with_reducible apply no⟩)
      refine ifD (fun h3 => ?_) (fun h3 => ⟨by with_reducible apply no⟩)
      obtain ⟨a, ea, hc⟩ := hT (by omega)
      obtain ⟨x, hx1, hx2⟩ := hc i (by omega)
      have hbel : Bel w0 w := by
        obtain ⟨oL, oW, es, o, Z, zn, zc, C, cn, cc, A, n, c, B, m, d, os, cs, H, _⟩ := I
        exact H.own.bel
      refine ⟨a, ea, ⟨by omega, by omega⟩, x, by rw [Int.toNat_natCast]; exact hbel.cellb hx1, ?_⟩
      have kk := Script_j2 hg (xc := xc) (xc' := xc') hS hT (by omega) (by omega) next I (b := x != 0) (fun h => by omega)
      exact ⟨by with_reducible apply kk⟩
    · obtain ⟨oL, oW, es, o, Z, zn, zc, C, cn, cc, A, n, c, B, m, d, os, cs, H, qL, qW, hes, rfl, hok, xo, ho, hs, h4, h2, h3⟩ := I
      refine ⟨k' + 1, ?_⟩
      have kk : weftlaw6_IcmpScript.L2 (k' + 1) AL k' cL AW k' cW 0 w (Yes w0) := Script_l2 qL qW hes hok (by omega) (k' + 1) 0 w (by omega) (by omega) H.tail
      with_reducible apply kk
theorem IcmpScript_t (h : ScrS w0 X xn ∧ xn ≤ 1048576) (h' : Nums w0 X' xn' ∧ xn' ≤ 1000000000000) : Calls Tryd.prog 4 #[.slice X xn xc, .slice X' xn' xc'] w0 (Yes w0) := by
  refine weftlaw6_IcmpScript.run ?_
  unfold weftlaw6_IcmpScript.s
  refine call_of (head_t hg 2) ?_
  rintro e w1 ⟨rfl, k1⟩
  refine ⟨_, rfl, ifNot (fun h => by cases h) (fun _ => ?_)⟩
  refine call_of (head_t (hg.bel k1) 3) ?_
  rintro e w2 ⟨rfl, k2⟩
  refine ⟨_, rfl, ifNot (fun h => by cases h) (fun _ => ?_)⟩
  have key : weftlaw6_IcmpScript.J1 X xn xc X' xn' xc' w2 (Yes w0) := by
    unfold weftlaw6_IcmpScript.J1; intros
    rw [weftlaw6_IcmpScript.j1_eq]
    refine own_new (l := ov zop none 0 0 none 0 0 none 0 0 none 0 0) (((Own.refl w0).call k1).call k2) fun g w3 H => ?_
    refine ⟨xn + 1, ?_⟩
    have z : SL none none 0 0 [] := SL.none
    have hl : SLs [none, none, none, none] (lists6 zop none 0 0 none 0 0 none 0 0 none 0 0) := SLs.cons (x := ⟨none, 0, 0, []⟩) z (SLs.cons (x := ⟨none, 0, 0, []⟩) z (SLs.cons (x := ⟨none, 0, 0, []⟩) z (SLs.cons (x := ⟨none, 0, 0, []⟩) z SLs.nil)))
    have I : Iv w0 w3 g none 0 0 none 0 0 0 0 := ⟨none, none, [], zop, none, 0, 0, none, 0, 0, none, 0, 0, none, 0, 0, [none, none, none, none], [], own_of H, RV.none, RV.none, rfl, rfl, fun e he => (by cases he), hl,
      ⟨Bytes.nil, ⟨by decide, by decide, by decide, Bytes.nil, Nat.zero_le _⟩, pz_fine, by decide, by decide, by decide⟩, ⟨Nat.zero_le _, Nat.zero_le _, Nat.zero_le _, Nat.zero_le _⟩, by decide, by decide, by decide⟩
    have kk : weftlaw6_IcmpScript.L1 (xn + 1) X xn xc X' xn' xc' none 0 0 none 0 0 g 0 0 w3 (Yes w0) := Script_l1 hg (xc := xc) (xc' := xc') h.1 h'.1 h.2 (xn + 1) 0 none 0 0 none 0 0 g 0 w3 (by omega) (by omega) I
    with_reducible apply kk
  exact ⟨by with_reducible apply key⟩
end
end Go.Proofs.YtchdcdmdbjkihaaDoorS
