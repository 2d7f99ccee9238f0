/- Package weftlaw7: TunnelMemory is true.
   Conditions: the arguments are as a row's arguments are. -/
import Derived.Test.YtphbdmafchjjeaaSMemH
namespace Go.Proofs.YtphbdmafchjjeaaS
open Go Go.RowKit Go.Proofs Go.Proofs.YtphbdmafchjjeaaX
set_option maxRecDepth 100000
set_option linter.unusedVariables false
set_option linter.unusedSectionVars false
set_option linter.unusedSimpArgs false

section
variable {w0 : World} {a : Ag} (ok : a.Ok w0)
include ok
/-- A list that was answered is copied. -/
theorem copy_o {w : World} {L : List Blk} {cs : List Lst} {g n : Nat} {l : List Int} (H : OF w0 w ((g, 5, bv l) :: L) cs) (hl : l.length = n) (hn : n ≤ 1000000) {K : Option Addr → Nat → World → Prop}
    (hK : ∀ A c wb, OF w0 wb ((g, 5, bv l) :: L) ((A, 0 + n, l) :: cs) → K A c wb) : AppE w 1 1 5 [.int .u8 0] none 0 0 (some ⟨g, 0, none⟩) n K := by
  subst hl
  refine buf_app (Buf.nil (Own.refl w)) (H.own.bk 0 rfl).by (by omega) fun A c wb q => ?_
  have y := q.by
  rw [List.nil_append] at y
  have ne := H.new_ne q.fre
  exact hK A c wb ((H.call q.own.bel).add (x := (A, 0 + l.length, l)) y (fun _ => ne))
theorem tm_j1 {w : World} {g4 g5 g7 : Nat} (H : OF w0 w [(g7, 33, dv a.sp a.dp a.D a.db.length a.d), (g5, 31, fv a.f a.A a.f.body.length a.c), (g4, 26, ov a.o)] []) :
    weftlaw7_TunnelMemory.J1 a.src g4 g5 g7 w (Yes w0) := by
  have hS := ok.S_le
  have hR := ok.R_le
  have hU := ok.U_le
  have hn := ok.n_le
  have hm := ok.m
  have he := (sErr_zero ok.z).2.2
  unfold weftlaw7_TunnelMemory.J1; intros
  rw [weftlaw7_TunnelMemory.j1_eq]
  refine ld_ou (o := a.o) (H.own.bk 2 rfl) ?_
  refine ld_fr (f := a.f) (H.own.bk 1 rfl) ?_
  refine ld_dg (a0 := a.sp) (a1 := a.dp) (H.own.bk 0 rfl) ?_
  refine call_of (untouched_t ok.ho ok.hf ok.hs ok.hsp ok.hdp (ok.yA.bel H.own.bel) ok.nc ok.z (ok.yD.bel H.own.bel) ok.hbD ok.md ok.m) ?_
  rintro e w1 ⟨rfl, k1⟩
  refine ⟨_, rfl, ?_⟩
  refine ifNot (fun h => by cases h) (fun _ => ?_)
  replace H := H.call k1
  refine ld_ou (o := a.o) (H.own.bk 2 rfl) ?_
  refine ld_fr (f := a.f) (H.own.bk 1 rfl) ?_
  refine call_of (seal_o ok.ho ok.hf ok.z (ok.yA.bel H.own.bel)) ?_
  rintro e w2 ⟨gs, rfl, Hs⟩
  refine ⟨_, _, _, _, rfl, ?_⟩
  replace H := H.join Hs
  refine copy_o ok H rfl (by show a.S ≤ _; omega) fun Aw cw w3 H => ?_
  refine call_of (open_o ok.ho ok.hf ok.z (H.own.bk 0 rfl).by (Nat.le_refl _)) ?_
  rintro e w4 ⟨ga, rfl, Ha⟩
  refine ⟨_, _, _, _, _, _, _, _, _, _, _, _, _, _, _, _, _, _, _, _, _, _, _, rfl, ?_⟩
  replace H := H.join Ha
  refine of_new (l := ov oz) H fun g48 w5 H => ?_
  refine of_new (l := fv fz none 0 0) H fun gb w6 H => ?_
  refine of_put 1 H rfl rfl (Nat.le_refl 6) fun w7 H => ?_
  refine of_put 0 H rfl rfl (Nat.le_refl 14) fun w8' H => ?_
  replace H : OF w0 w8' [(gb, 31, fv a.f (some ⟨ga, 0, none⟩) a.f.body.length a.f.body.length), (g48, 26, ov a.o), (ga, 5, bv a.f.body), (gs, 5, bv (sOut a.o a.f)),
    (g7, 33, dv a.sp a.dp a.D a.db.length a.d), (g5, 31, fv a.f a.A a.f.body.length a.c), (g4, 26, ov a.o)] [(Aw, 0 + a.S, sOut a.o a.f)] := H
  refine ld_fr (f := a.f) (H.own.bk 5 rfl) ?_
  refine call_of (raw_o ok.hf he (ok.yA.bel H.own.bel)) ?_
  rintro e w9 ⟨gr, rfl, Hr⟩
  refine ⟨_, _, _, _, rfl, ?_⟩
  replace H := H.join Hr
  refine copy_o ok H rfl (by show a.R ≤ _; omega) fun Ao co w10 H => ?_
  refine call_of (fr_o ok.hf he (H.own.bk 0 rfl).by (Nat.le_refl _)) ?_
  rintro e w11 ⟨gc, rfl, Hc⟩
  refine ⟨_, _, _, _, _, _, _, _, _, _, _, _, _, _, _, _, _, rfl, ?_⟩
  replace H := H.join Hc
  refine of_mk (fv fz none 0 0) H rfl rfl fun gd w12 H => ?_
  replace H : OF w0 w12 [(gd, 31, fv a.f (some ⟨gc, 0, none⟩) a.f.body.length a.f.body.length), (gc, 5, bv a.f.body), (gr, 5, bv a.f.bytes), (gb, 31, fv a.f (some ⟨ga, 0, none⟩) a.f.body.length a.f.body.length), (g48, 26, ov a.o), (ga, 5, bv a.f.body), (gs, 5, bv (sOut a.o a.f)),
    (g7, 33, dv a.sp a.dp a.D a.db.length a.d), (g5, 31, fv a.f a.A a.f.body.length a.c), (g4, 26, ov a.o)] [(Ao, 0 + a.R, a.f.bytes), (Aw, 0 + a.S, sOut a.o a.f)] := H
  refine ld_dg (a0 := a.sp) (a1 := a.dp) (H.own.bk 7 rfl) ?_
  refine call_of (u_o ok.hs ok.hsp ok.hdp ok.hbD hm (ok.yD.bel H.own.bel)) ?_
  rintro e w13 ⟨gu, rfl, Hu⟩
  refine ⟨_, _, _, _, rfl, ?_⟩
  replace H := H.join Hu
  refine copy_o ok H rfl (by show a.U ≤ _; omega) fun Au cu w14 H => ?_
  refine call_of (c_o ok.hs ok.hsp ok.hdp ok.hbD hm (H.own.bk 0 rfl).by (Nat.le_refl _)) ?_
  rintro e w15 ⟨ge, rfl, He⟩
  refine ⟨_, _, _, _, _, _, rfl, ?_⟩
  replace H := H.join He
  refine of_mk (dv 0 0 none 0 0) H rfl rfl fun gf w16 H => ?_
  replace H : OF w0 w16 [(gf, 33, dv a.sp a.dp (some ⟨ge, 0, none⟩) a.db.length a.db.length), (ge, 5, bv a.db), (gu, 5, bv a.u), (gd, 31, fv a.f (some ⟨gc, 0, none⟩) a.f.body.length a.f.body.length), (gc, 5, bv a.f.body), (gr, 5, bv a.f.bytes), (gb, 31, fv a.f (some ⟨ga, 0, none⟩) a.f.body.length a.f.body.length), (g48, 26, ov a.o), (ga, 5, bv a.f.body), (gs, 5, bv (sOut a.o a.f)),
    (g7, 33, dv a.sp a.dp a.D a.db.length a.d), (g5, 31, fv a.f a.A a.f.body.length a.c), (g4, 26, ov a.o)] [(Au, 0 + a.U, a.u), (Ao, 0 + a.R, a.f.bytes), (Aw, 0 + a.S, sOut a.o a.f)] := H
  refine ifN (fun h => absurd rfl h) (fun _ => ?_)
  refine ifN (fun h => absurd rfl h) (fun _ => ?_)
  refine ifN (fun h => absurd rfl h) (fun _ => ?_)
  refine ifN (fun h => absurd rfl h) (fun _ => ?_)
  refine ifN (fun h => absurd rfl h) (fun _ => ?_)
  refine ifN (fun h => absurd rfl h) (fun _ => ?_)
  have H2 : OF w0 w16 ((g48, 26, ov a.o) :: TmL a ⟨g4, g5, g7, gs, gr, gu, ga, gc, ge, gb, gd, gf, Aw, Ao, Au⟩ (sOut a.o a.f) a.f.bytes a.u a.f.body a.f.body a.db) [(Au, 0 + a.U, a.u), (Ao, 0 + a.R, a.f.bytes), (Aw, 0 + a.S, sOut a.o a.f)] := by
    refine H.perm ?_
    classical
    rw [List.perm_iff_count]
    intro x
    simp only [List.count_cons, List.count_nil]
    omega
  have H3 : OF w0 w16 (TmL a ⟨g4, g5, g7, gs, gr, gu, ga, gc, ge, gb, gd, gf, Aw, Ao, Au⟩ (sOut a.o a.f) a.f.bytes a.u a.f.body a.f.body a.db) (TmC a ⟨g4, g5, g7, gs, gr, gu, ga, gc, ge, gb, gd, gf, Aw, Ao, Au⟩) := ⟨H2.own.tail, fun x hx => H2.tail.fz x (by
    simp only [TmC, List.mem_cons, List.not_mem_nil, or_false] at hx ⊢
    rcases hx with rfl | rfl | rfl
    · exact Or.inr (Or.inr rfl)
    · exact Or.inr (Or.inl rfl)
    · exact Or.inl rfl)⟩
  have k := tm_j2 ok (cw := cw) (co := co) (cu := cu) H3
  exact ⟨by with_reducible apply k⟩
end
theorem TunnelMemory_t {w : World} {o : Ot} (ho : o.Fine) {f : Fr} {A : Option Addr} {n c : Nat} (h : f.Fine ∧ By w A n f.body ∧ n ≤ c) {src : Int} (hs : 0 ≤ src ∧ src ≤ 4294967295) {z : Int × Int × List Int} {D : Option Addr} {m d : Nat}
    (h3 : (0 ≤ z.1 ∧ z.1 ≤ 65535) ∧ (0 ≤ z.2.1 ∧ z.2.1 ≤ 65535) ∧ By w D m z.2.2 ∧ Bytes z.2.2 ∧ m ≤ d) :
    Calls Try.prog 3 #[.agg (ov o).toArray, .agg (fv f A n c).toArray, .int .u32 src, .agg (dv z.1 z.2.1 D m d).toArray] w (Yes w) := by
  obtain ⟨hf, yA, hnc⟩ := h
  obtain ⟨sp, dp, db⟩ := z
  obtain ⟨hsp, hdp, yD, hbD, hmd⟩ := h3
  replace yD : By w D m db := yD
  replace hbD : Bytes db := hbD
  have hn := yA.len
  subst hn
  have hm := yD.len
  subst hm
  refine weftlaw7_TunnelMemory.run ?_
  unfold weftlaw7_TunnelMemory.s
  refine own_new (l := ov o) (Own.refl w) fun g1 w2 H => ?_
  refine own_new (l := fv f A f.body.length c) H fun g3 w4 H => ?_
  refine own_new (l := dv sp dp D db.length d) H fun g5 w6 H => ?_
  refine call_of (begun_t w6) ?_
  rintro e w7 ⟨rfl, k7⟩
  refine ⟨_, rfl, ?_⟩
  refine ifNot (fun h => by cases h) (fun _ => ?_)
  replace H := H.call k7
  refine ld_ou (o := o) (H.bk 2 rfl) ?_
  refine ld_fr (f := f) (H.bk 1 rfl) ?_
  refine call_of (sealable_t (o := o) (f := f) rfl) ?_
  rintro e w8' ⟨rfl, k8⟩
  refine ⟨_, rfl, ?_⟩
  replace H := H.call k8
  refine ifNot (fun _ => ⟨rfl, H.bel⟩) (fun hz => ?_)
  refine ⟨_, _, _, H.cell 0 2 rfl rfl, ?_⟩
  refine ifD (fun _ => ⟨rfl, H.bel⟩) (fun hm => ?_)
  have ok : Ag.Ok ⟨o, f, src, sp, dp, db, A, c, D, d⟩ w := ⟨ho, hf, hs, hsp, hdp, yA, hnc, yD, hbD, hmd, by show db.length ≤ _; omega, by simpa using hz⟩
  have k := tm_j1 ok (w := w8') (g4 := g1) (g5 := g3) (g7 := g5) ⟨H, fun x hx => by cases hx⟩
  exact ⟨by with_reducible apply k⟩
end Go.Proofs.YtphbdmafchjjeaaS
