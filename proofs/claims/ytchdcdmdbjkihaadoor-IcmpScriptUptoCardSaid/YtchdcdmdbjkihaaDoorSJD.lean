/- Package weftlaw6: IcmpScript.
   Conditions: the script is as a row's argument is. -/
import Derived.Test.YtchdcdmdbjkihaaDoorSJC
namespace Go.Proofs.YtchdcdmdbjkihaaDoorS
open Go Go.RowKit Go.Proofs Go.Proofs.YtchdcdmdbjkihaaDoorX
set_option maxRecDepth 100000
set_option linter.unusedVariables false
set_option linter.unusedSectionVars false
set_option linter.unusedSimpArgs false

section
variable {w0 w : World} {R M : List Blk} {cs : List Lst} {os : List (Option Blk)} {o : Op6} {Z : Option Addr} {zn zc : Nat} {C : Option Addr} {cn cc : Nat} {A : Option Addr} {n c : Nat} {B : Option Addr} {m d : Nat} {g2 g4 : Nat} {z4 : List Value}
theorem other_j2 (H : OF w0 w ((g2, 41, ov o Z zn zc C cn cc A n c B m d) :: (g4, 41, z4) :: (Bls os ++ R)) cs) (hz4 : z4.length = 21) (xo : SLs os (lists6 o Z zn zc C cn cc A n c B m d)) (ho : o.Fine) (hs : o.Sm) {k : Int} (hk : 0 ≤ k) (hk2 : k ≤ 9223372036854775807) :
    weftlaw6_other.J2 k g2 g4 w (RetO w0 R cs) := by
  unfold weftlaw6_other.J2; intros
  rw [weftlaw6_other.j2_eq]
  refine let_as (k / 2) (by rw [td hk, w64 (by omega) (by omega)]) ?_
  refine let_as (k / 2 % 8) (tm (by omega)) ?_
  refine let_as (k / 16) (by rw [td hk, w64 (by omega) (by omega)]) ?_
  refine ⟨4 + 1, ?_⟩
  have kk : weftlaw6_other.L1 (4 + 1) (k / 16) g2 g4 (k / 2 % 8) none 0 0 0 w (RetO w0 R cs) := other_l1 hz4 xo ho hs (by omega) (by omega) (4 + 1) 0 w none none 0 [] (by omega) (by omega) H SV.none (fun x hx => by cases hx) (Nat.le_refl 0)
  with_reducible apply kk
theorem other_j1 (H : OF w0 w ((g2, 41, ov o Z zn zc C cn cc A n c B m d) :: (g4, 41, z4) :: (Bls os ++ R)) cs) (hz4 : z4.length = 21) (xo : SLs os (lists6 o Z zn zc C cn cc A n c B m d)) (ho : o.Fine) (hs : o.Sm) {k : Int} (hk : 0 ≤ k) (hk2 : k ≤ 9223372036854775807) :
    weftlaw6_other.J1 k g2 g4 w (RetO w0 R cs) := by
  unfold weftlaw6_other.J1; intros
  rw [weftlaw6_other.j1_eq]
  refine let_as (k % 2) (tm hk) ?_
  refine ifE (fun _ => ?_) (fun _ => ?_)
  · have h : OpAt w o Z zn zc C cn cc A n c B m d := xo6_at (OF.tail (OF.tail H)).own xo
    refine ⟨_, _, _, _, _, _, _, _, _, _, _, _, _, _, _, _, _, _, _, _, _, _, _, _, _, _, _, _, _, ⟨rfl, (H.own.bk 0 rfl).at⟩, ?_⟩
    refine call_of (alone_t hs h) ?_
    rintro e w3 ⟨Z', zn', zc', C', cn', cc', A', n', c', B', m', d', os', rfl, HX, xo'⟩
    refine ⟨_, _, _, _, _, _, _, _, _, _, _, _, _, _, _, _, _, _, _, _, _, _, _, _, _, _, _, _, _, rfl, ?_⟩
    have H1 := H.join HX
    have p1 : (Bls os' ++ ((g2, 41, ov o Z zn zc C cn cc A n c B m d) :: (g4, 41, z4) :: (Bls os ++ R))).Perm (Bls os ++ ((g2, 41, ov o Z zn zc C cn cc A n c B m d) :: (g4, 41, z4) :: (Bls os' ++ R))) := by
      refine (perm2 _ _ _ _).trans (List.Perm.trans ?_ (perm2 _ _ _ _).symm)
      exact ((List.perm_append_comm_assoc _ _ _).cons _).cons _
    replace H1 := OF.less (H1.perm p1)
    refine of_put 0 H1 rfl rfl (Nat.le_refl 21) fun w4 H2 => ?_
    rw [splice_all _ _ (by rfl)] at H2
    have kk := other_j2 (o := o) (z4 := z4) H2 hz4 xo' ho hs hk hk2
    exact ⟨by with_reducible apply kk⟩
  · have kk := other_j2 H hz4 xo ho hs hk hk2
    exact ⟨by with_reducible apply kk⟩
theorem other_t (H : OF w0 w (Bls os ++ R) cs) (xo : SLs os (lists6 o Z zn zc C cn cc A n c B m d)) (ho : o.Fine) (hs : o.Sm) {k : Int} (hk : -9223372036854775808 ≤ k ∧ k ≤ 9223372036854775807) :
    Calls Tryd.prog 13 #[.agg (ov o Z zn zc C cn cc A n c B m d).toArray, .int .i64 k] w (RetO w0 R cs) := by
  refine weftlaw6_other.run ?_
  unfold weftlaw6_other.s
  refine let_as w.heap.size rfl (let_as (w.alloc (.cells (ov o Z zn zc C cn cc A n c B m d).toArray 41)) rfl ?_)
  have H1 := H.new 41 (ov o Z zn zc C cn cc A n c B m d)
  generalize w.alloc (.cells (ov o Z zn zc C cn cc A n c B m d).toArray 41) = w1 at H1 ⊢
  refine let_as w1.heap.size rfl (let_as (w1.alloc (.cells (ov zop none 0 0 none 0 0 none 0 0 none 0 0).toArray 41)) rfl ?_)
  have H2 := (H1.new 41 (ov zop none 0 0 none 0 0 none 0 0 none 0 0)).perm (List.Perm.swap _ _ _)
  generalize w1.alloc (.cells (ov zop none 0 0 none 0 0 none 0 0 none 0 0).toArray 41) = w2 at H2 ⊢
  refine ifD (fun h1 => ?_) (fun h1 => ?_)
  · refine let_as (k + 1) (w64 (by omega) (by omega)) ?_
    refine let_as (0 - (k + 1)) (w64 (by omega) (by omega)) ?_
    have kk := other_j1 (k := 0 - (k + 1)) H2 rfl xo ho hs (by omega) (by omega)
    exact ⟨by with_reducible apply kk⟩
  · have kk := other_j1 (k := k) H2 rfl xo ho hs (by omega) (by omega)
    exact ⟨by with_reducible apply kk⟩
end
end Go.Proofs.YtchdcdmdbjkihaaDoorS
