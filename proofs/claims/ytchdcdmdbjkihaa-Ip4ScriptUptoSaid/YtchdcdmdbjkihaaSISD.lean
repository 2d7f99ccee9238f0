/- Package weftlaw3: Ip4Script.
   Conditions: the script is as a row's argument is. -/
import Derived.Test.YtchdcdmdbjkihaaSISC
namespace Go.Proofs.YtchdcdmdbjkihaaS
open Go Go.RowKit Go.Proofs Go.Proofs.YtchdcdmdbjkihaaX
set_option maxRecDepth 100000
set_option linter.unusedVariables false
set_option linter.unusedSectionVars false
set_option linter.unusedSimpArgs false

section
variable {w0 w : World} {R M : List Blk} {cs : List Lst} {oP : Option Blk} {os : List (Option Blk)} {o : Op3} {Z : Option Addr} {zn zc : Nat} {Y : Option Addr} {yn yc : Nat} {A : Option Addr} {n c : Nat} {B : Option Addr} {m d : Nat} {ls : List LC} {g2 g4 : Nat} {z4 : List Value}
theorem other_j2 (H : OF w0 w ((g2, 39, opv o Z zn zc Y yn yc A n c B m d) :: (g4, 39, z4) :: (oP.toList ++ (Bls os ++ R))) cs) (hz4 : z4.length = 17) (xo : XO oP os o Z zn zc Y yn yc A n c B m d ls) (ho : o.Fine) (hs : o.Sm) {k : Int} (hk : 0 ≤ k) (hk2 : k ≤ 9223372036854775807) :
    weftlaw3_other.J2 k g2 g4 w (RetO w0 R cs) := by
  unfold weftlaw3_other.J2; intros
  rw [weftlaw3_other.j2_eq]
  refine let_as (k / 2) (by rw [td hk, w64 (by omega) (by omega)]) ?_
  refine let_as (k / 2 % 8) (tm (by omega)) ?_
  refine let_as (k / 16) (by rw [td hk, w64 (by omega) (by omega)]) ?_
  refine ⟨3 + yn + 1, ?_⟩
  have kk : weftlaw3_other.L1 (3 + yn + 1) (k / 16) g2 g4 (k / 2 % 8) none 0 0 0 w (RetO w0 R cs) := other_l1 hz4 xo ho hs (by omega) (by omega) (3 + yn + 1) 0 w none none 0 [] (by omega) (by omega) H SV.none (fun x hx => by cases hx) (Nat.le_refl 0)
  with_reducible apply kk
theorem other_j1 (H : OF w0 w ((g2, 39, opv o Z zn zc Y yn yc A n c B m d) :: (g4, 39, z4) :: (oP.toList ++ (Bls os ++ R))) cs) (hz4 : z4.length = 17) (xo : XO oP os o Z zn zc Y yn yc A n c B m d ls) (ho : o.Fine) (hs : o.Sm) {k : Int} (hk : 0 ≤ k) (hk2 : k ≤ 9223372036854775807) :
    weftlaw3_other.J1 k g2 g4 w (RetO w0 R cs) := by
  unfold weftlaw3_other.J1; intros
  rw [weftlaw3_other.j1_eq]
  refine let_as (k % 2) (tm hk) ?_
  refine ifE (fun _ => ?_) (fun _ => ?_)
  · have h : OpAt w o Z zn zc Y yn yc A n c B m d := XO.at (OF.tail (OF.tail H)).own xo
    have l1 := h.p.opts.len
    have l2 := h.p.body.len
    have l3 := hs.lo
    have l4 := hs.lb
    refine ⟨_, _, _, _, _, _, _, _, _, _, _, _, _, _, _, _, _, _, _, _, _, _, _, _, _, ⟨rfl, (H.own.bk 0 rfl).at⟩, ?_⟩
    refine call_of (alone_t ho h (by omega) (by omega)) ?_
    rintro e w3 ⟨Z', zn', zc', Y', yn', yc', A', n', c', B', m', d', oP', os', ls', rfl, HX, xo'⟩
    refine ⟨_, _, _, _, _, _, _, _, _, _, _, _, _, _, _, _, _, _, _, _, _, _, _, _, _, rfl, ?_⟩
    have H1 := H.join HX
    have p1 : ((oP'.toList ++ Bls os') ++ ((g2, 39, opv o Z zn zc Y yn yc A n c B m d) :: (g4, 39, z4) :: (oP.toList ++ (Bls os ++ R)))).Perm ((oP.toList ++ Bls os) ++ ((g2, 39, opv o Z zn zc Y yn yc A n c B m d) :: (g4, 39, z4) :: (oP'.toList ++ (Bls os' ++ R)))) := by
      rw [← List.append_assoc oP.toList, ← List.append_assoc oP'.toList (Bls os') R]
      refine (perm2 _ _ _ _).trans (List.Perm.trans ?_ (perm2 _ _ _ _).symm)
      exact ((List.perm_append_comm_assoc _ _ _).cons _).cons _
    replace H1 := OF.less (H1.perm p1)
    refine of_put 0 H1 rfl rfl (Nat.le_refl 17) fun w4 H2 => ?_
    rw [splice_all _ _ (by rfl)] at H2
    have kk := other_j2 (o := o) (z4 := z4) H2 hz4 xo' ho hs hk hk2
    exact ⟨by with_reducible apply kk⟩
  · have kk := other_j2 H hz4 xo ho hs hk hk2
    exact ⟨by with_reducible apply kk⟩
theorem other_t (H : OF w0 w (oP.toList ++ (Bls os ++ R)) cs) (xo : XO oP os o Z zn zc Y yn yc A n c B m d ls) (ho : o.Fine) (hs : o.Sm) {k : Int} (hk : -9223372036854775808 ≤ k ∧ k ≤ 9223372036854775807) :
    Calls Try.prog 15 #[.agg (opv o Z zn zc Y yn yc A n c B m d).toArray, .int .i64 k] w (RetO w0 R cs) := by
  refine weftlaw3_other.run ?_
  unfold weftlaw3_other.s
  refine let_as w.heap.size rfl (let_as (w.alloc (.cells (opv o Z zn zc Y yn yc A n c B m d).toArray 39)) rfl ?_)
  have H1 := H.new 39 (opv o Z zn zc Y yn yc A n c B m d)
  generalize w.alloc (.cells (opv o Z zn zc Y yn yc A n c B m d).toArray 39) = w1 at H1 ⊢
  refine let_as w1.heap.size rfl (let_as (w1.alloc (.cells (opv zop none 0 0 none 0 0 none 0 0 none 0 0).toArray 39)) rfl ?_)
  have H2 := (H1.new 39 (opv zop none 0 0 none 0 0 none 0 0 none 0 0)).perm (List.Perm.swap _ _ _)
  generalize w1.alloc (.cells (opv zop none 0 0 none 0 0 none 0 0 none 0 0).toArray 39) = w2 at H2 ⊢
  refine ifD (fun h1 => ?_) (fun h1 => ?_)
  · refine let_as (k + 1) (w64 (by omega) (by omega)) ?_
    refine let_as (0 - (k + 1)) (w64 (by omega) (by omega)) ?_
    have kk := other_j1 (k := 0 - (k + 1)) H2 rfl xo ho hs (by omega) (by omega)
    exact ⟨by with_reducible apply kk⟩
  · have kk := other_j1 (k := k) H2 rfl xo ho hs (by omega) (by omega)
    exact ⟨by with_reducible apply kk⟩
end
end Go.Proofs.YtchdcdmdbjkihaaS
