/- Package weftlaw7: untouched is true.
   Conditions: the frame may be sealed; the datagram is not too long. -/
import Derived.Test.YtphbdmafchjjeaaSMemD
namespace Go.Proofs.YtphbdmafchjjeaaS
open Go Go.RowKit Go.Proofs Go.Proofs.YtphbdmafchjjeaaX
set_option maxRecDepth 100000
set_option linter.unusedVariables false
set_option linter.unusedSectionVars false
set_option linter.unusedSimpArgs false

section
variable {w0 : World} {o : Ot} (ho : o.Fine) {f : Fr} (hf : f.Fine) {src sp dp : Int} (hs : 0 ≤ src ∧ src ≤ 4294967295) (hsp : 0 ≤ sp ∧ sp ≤ 65535) (hdp : 0 ≤ dp ∧ dp ≤ 65535)
include ho hf hs hsp hdp
theorem unt_l3s {R : List Blk} {oL : Option Blk} {AL : Option Addr} {N cL : Nat} {C : List (List Int)} {B : Option Addr} {n c : Nat} {body : List Int} (r : Rnd w0 o f B n c body)
    {g4 g5 g7 g12 : Nat} {D : Option Addr} {m d : Nat} (m4 : ((g4, 26, ov o) : Blk) ∈ R) (m7 : ((g7, 33, dv sp dp D m d) : Blk) ∈ R)
    {y10 : Int} {k m0 q : Nat} {w : World} (hk : k < 2) (hN2 : N ≤ 900000) (K : Kept w0 w ((g12, 31, fv { f with body := body } B n c) :: R) oL AL N cL C)
    (rest : ∀ w' oL' AL' cL', Kept w0 w' ((g12, 31, fv { f with body := body } B n c) :: R) oL' AL' (N + 6) cL' (C ++ sixL o f src sp dp body) → weftlaw7_untouched.L3 m0 q src g4 g5 g7 AL' (N + 6) cL' y10 B n c g12 ((k + 1 : Nat) : Int) w' (Yes w0)) :
    weftlaw7_untouched.L3 m0 (q + 1) src g4 g5 g7 AL N cL y10 B n c g12 (k : Int) w (Yes w0) := by
  obtain ⟨bs, H0, qL, hC, hN, hn⟩ := K
  have H : Own w0 w ((g12, 31, fv { f with body := body } B n c) :: (oL.toList ++ (bs.map blk ++ R))) := H0.perm ((List.Perm.append_left _ List.perm_middle).trans List.perm_middle)
  have mT : ∀ {x : Blk}, x ∈ R → x ∈ (oL.toList ++ (bs.map blk ++ R)) := fun h => List.mem_append.2 (Or.inr (List.mem_append.2 (Or.inr h)))
  have hx : ({ f with body := body } : Fr).Fine := ⟨hf.macs, hf.typ, r.bb, by show body.length ≤ _; have := r.lb; omega⟩
  have hz := r.z
  have he := rnd_err r
  have hl := r.lb
  have nl : body.length = n := r.y.len
  have nc := r.nc
  have sl := sOut_len (o := o) (f := { f with body := body })
  generalize hT : (oL.toList ++ (bs.map blk ++ R)) = T at H mT
  unfold weftlaw7_untouched.L3; intros
  rw [weftlaw7_untouched.l3_eq]
  refine ifT (by omega) ?_
  refine ld_ou (o := o) (t := 26) (own_mem H (List.mem_cons_of_mem _ (mT m4))) ?_
  refine ld_fr (f := { f with body := body }) (H.bk 0 rfl) ?_
  refine call_of (seal_o ho hx hz (A := B) (n := n) (c := c) (r.y.bel H.bel)) ?_
  rintro e w1 ⟨gs, rfl, Hs⟩
  refine ⟨_, _, _, _, rfl, ?_⟩
  have H1 := Own.join H Hs
  refine call_of (open_o ho hx hz (Hs.bk 0 rfl).by (Nat.le_refl _)) ?_
  rintro e w2 ⟨ga, rfl, Ha⟩
  have H2 := Own.join H1 Ha
  refine ⟨_, _, _, _, _, _, _, _, _, _, _, _, _, _, _, _, _, _, _, _, _, _, _, rfl, ?_⟩
  refine own_new (l := ov oz) H2 fun g48 w3 H3 => ?_
  refine own_new (l := fv fz none 0 0) H3 fun gb w4 H4 => ?_
  refine own_putB 1 H4 rfl rfl (Nat.le_refl 6) fun w5 H5 u5 => ?_
  refine own_putB 0 H5 rfl rfl (Nat.le_refl 14) fun w6 H6 u6 => ?_
  replace H6 : Own w0 w6 ((gb, 31, fv { f with body := body } (some ⟨ga, 0, none⟩) body.length body.length) :: (g48, 26, ov o) :: (ga, 5, bv body) :: (gs, 5, bv (sOut o { f with body := body })) ::
      (g12, 31, fv { f with body := body } B n c) :: T) := H6
  refine ld_fr (f := { f with body := body }) (H6.bk 4 rfl) ?_
  refine call_of (raw_o hx he (A := B) (n := n) (c := c) (r.y.bel H6.bel)) ?_
  rintro e w7 ⟨gr, rfl, Hr⟩
  have H7 := Own.join H6 Hr
  refine ⟨_, _, _, _, rfl, ?_⟩
  refine call_of (fr_o hx he (Hr.bk 0 rfl).by (Nat.le_refl _)) ?_
  rintro e w8' ⟨gc, rfl, Hc⟩
  have H8 := Own.join H7 Hc
  refine ⟨_, _, _, _, _, _, _, _, _, _, _, _, _, _, _, _, _, rfl, ?_⟩
  refine own_new (l := fv fz none 0 0) H8 fun gd w9 H9 => ?_
  refine own_putB 0 H9 rfl rfl (Nat.le_refl 14) fun w10 H10 u10 => ?_
  replace H10 : Own w0 w10 ((gd, 31, fv { f with body := body } (some ⟨gc, 0, none⟩) body.length body.length) :: (gc, 5, bv body) :: (gr, 5, bv ({ f with body := body } : Fr).bytes) ::
      (gb, 31, fv { f with body := body } (some ⟨ga, 0, none⟩) body.length body.length) :: (g48, 26, ov o) :: (ga, 5, bv body) :: (gs, 5, bv (sOut o { f with body := body })) ::
      (g12, 31, fv { f with body := body } B n c) :: T) := H10
  have b7 : Bk w10 g7 33 (dv sp dp D m d) := own_mem H10 (List.mem_cons_of_mem _ (List.mem_cons_of_mem _ (List.mem_cons_of_mem _ (List.mem_cons_of_mem _ (List.mem_cons_of_mem _ (List.mem_cons_of_mem _ (List.mem_cons_of_mem _ (List.mem_cons_of_mem _ (mT m7)))))))))
  refine ⟨_, b7.cell 0 rfl, _, b7.cell 1 rfl, ?_⟩
  refine call_of (u_o hs hsp hdp r.bb (by omega) (A := B) (n := n) (c := c) (r.y.bel H10.bel)) ?_
  rintro e w11 ⟨gu, rfl, Hu⟩
  have H11 := Own.join H10 Hu
  refine ⟨_, _, _, _, rfl, ?_⟩
  refine call_of (c_o hs hsp hdp r.bb (by omega) (Hu.bk 0 rfl).by (Nat.le_refl _)) ?_
  rintro e w12 ⟨ge, rfl, He⟩
  have H12 := Own.join H11 He
  refine ⟨_, _, _, _, _, _, rfl, ?_⟩
  refine own_new (l := dv 0 0 none 0 0) H12 fun gf w13 H13 => ?_
  refine own_putB 0 H13 rfl rfl (Nat.le_refl 3) fun w14 H14 u14 => ?_
  replace H14 : Own w0 w14 ((gf, 33, dv sp dp (some ⟨ge, 0, none⟩) body.length body.length) :: (ge, 5, bv body) :: (gu, 5, bv (uBytes src src sp dp body true)) :: (gd, 31, fv { f with body := body } (some ⟨gc, 0, none⟩) body.length body.length) :: (gc, 5, bv body) :: (gr, 5, bv ({ f with body := body } : Fr).bytes) ::
      (gb, 31, fv { f with body := body } (some ⟨ga, 0, none⟩) body.length body.length) :: (g48, 26, ov o) :: (ga, 5, bv body) :: (gs, 5, bv (sOut o { f with body := body })) ::
      (g12, 31, fv { f with body := body } B n c) :: T) := H14
  refine ifN (fun h => absurd rfl h) (fun _ => ?_)
  refine ifN (fun h => absurd rfl h) (fun _ => ?_)
  refine ifN (fun h => absurd rfl h) (fun _ => ?_)
  refine ifN (fun h => absurd rfl h) (fun _ => ?_)
  refine ifN (fun h => absurd rfl h) (fun _ => ?_)
  refine ifN (fun h => absurd rfl h) (fun _ => ?_)
  refine ⟨_, _, _, H14.cell 6 13 rfl rfl, ?_⟩
  refine call_of (same_t (H14.bk 8 rfl).by (r.y.bel H14.bel) (by omega)) ?_
  rintro e w15 ⟨rfl, k15⟩
  refine ⟨_, rfl, ?_⟩
  refine ifNot (fun h => by cases h) (fun _ => ?_)
  replace H14 := H14.call k15
  refine ⟨_, _, _, H14.cell 3 13 rfl rfl, ?_⟩
  refine call_of (same_t (H14.bk 4 rfl).by (r.y.bel H14.bel) (by omega)) ?_
  rintro e w16 ⟨rfl, k16⟩
  refine ⟨_, rfl, ?_⟩
  refine ifNot (fun h => by cases h) (fun _ => ?_)
  replace H14 := H14.call k16
  refine ⟨_, _, _, H14.cell 0 2 rfl rfl, ?_⟩
  refine call_of (same_t (H14.bk 1 rfl).by (r.y.bel H14.bel) (by omega)) ?_
  rintro e w17 ⟨rfl, k17⟩
  refine ⟨_, rfl, ?_⟩
  refine ifNot (fun h => by cases h) (fun _ => ?_)
  replace H14 := H14.call k17
  subst hT
  have kk := unt_j4 (w0 := w0) ho hf hs hsp hdp r (m0 := m0) (m1 := q) (y10 := y10) (k := k) (yg4 := g4) (yg5 := g5) (yg7 := g7) (by omega) hC hN (by omega) hn qL H14 rest
  exact ⟨by with_reducible apply kk⟩
end
end Go.Proofs.YtphbdmafchjjeaaS
