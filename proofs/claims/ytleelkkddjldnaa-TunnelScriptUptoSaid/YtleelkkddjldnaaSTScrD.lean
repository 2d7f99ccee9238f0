/- Package weftlaw7: what holds between a script's steps.
   Conditions: none; every statement is proved here. -/
import Derived.Test.YtleelkkddjldnaaSTScrC
namespace Go.Proofs.YtleelkkddjldnaaS
open Go Go.RowKit Go.Proofs Go.Proofs.YtleelkkddjldnaaX
set_option maxRecDepth 100000
set_option linter.unusedVariables false
set_option linter.unusedSectionVars false
set_option linter.unusedSimpArgs false

abbrev Blk := Nat × TypeId × List Value
section
variable {w0 w : World} {g : Nat} {Q R R' : List Blk} {fz : List Lst} {Al : Option Addr} {nl cl : Nat} {As : Option Addr} {ns cs : Nat} {f : Fr} {Af : Option Addr} {nf cf : Nat} {o : Ot}
theorem Gd.permR (h : Gd w0 w g R fz Al nl cl As ns cs f Af nf cf o) (p : R.Perm R') : Gd w0 w g R' fz Al nl cl As ns cs f Af nf cf o := by
  obtain ⟨oL, oW, AL, n, cL, AW, cW, vL, vW, total, H, sL, sW, kp⟩ := h
  exact ⟨oL, oW, AL, n, cL, AW, cW, vL, vW, total, H.perm (((p.append_left oW.toList).append_left oL.toList).cons _), sL, sW, kp⟩
theorem Gd.ownP (h : Gd w0 w g R fz Al nl cl As ns cs f Af nf cf o) : ∃ P : List Blk, Own w0 w (P ++ R) := by
  obtain ⟨oL, oW, AL, n, cL, AW, cW, vL, vW, total, H, sL, sW, kp⟩ := h
  refine ⟨(g, 73, stc Al nl cl As ns cs f Af nf cf o AL n cL AW n cW total) :: (oL.toList ++ oW.toList), ?_⟩
  rw [List.cons_append, List.append_assoc]
  exact H.own
theorem Gd.mem (h : Gd w0 w g R fz Al nl cl As ns cs f Af nf cf o) {x : Lst} (hx : x ∈ fz) : By w x.1 x.2.1 x.2.2 := by
  obtain ⟨oL, oW, AL, n, cL, AW, cW, vL, vW, total, H, sL, sW, kp⟩ := h
  exact (H.fz x hx).1
theorem of_put {w0 a : World} {L : List Blk} {cs : List Lst} (k : Nat) {g o n : Nat} {t : TypeId} {l vs : List Value} {K : World → Prop} (h : OF w0 a L cs) (hk : L[k]? = some (g, t, l)) (hn : vs.length = n) (hi : o + n ≤ l.length) (hw : ∀ w1, OF w0 w1 (L.set k (g, t, splice l o vs)) cs → K w1) :
    May a ⟨g, o, none⟩ n ∧ Let (putCells a ⟨g, o, none⟩ vs 0) K := by
  have hp := Bk.put (t := t) (o := o) vs a l 0 (h.own.bk k hk) (by omega)
  rw [Nat.add_zero] at hp
  exact ⟨(h.own.bk k hk).mayN hi, hw _ (h.over k hk hp.2 hp.1)⟩
theorem Gd.setLast (h : Gd w0 w g R fz Al nl cl As ns cs f Af nf cf o) {A : Option Addr} {n c : Nat} {K : World → Prop} (hK : ∀ w1, Gd w0 w1 g R fz A n c As ns cs f Af nf cf o → K w1) : MayC w ⟨g, 0, none⟩ ∧ Let (w.setCell ⟨g, 0, none⟩ (.slice A n c)) K := by
  obtain ⟨oL, oW, AL, m, cL, AW, cW, vL, vW, total, H, sL, sW, kp⟩ := h
  exact of_set 0 H rfl (Nat.lt_of_lt_of_le (by decide : 0 < 25) (Nat.le_refl 25)) fun w1 H => hK w1 ⟨oL, oW, AL, m, cL, AW, cW, vL, vW, total, H, sL, sW, kp⟩
theorem Gd.setSealed (h : Gd w0 w g R fz Al nl cl As ns cs f Af nf cf o) {A : Option Addr} {n c : Nat} {K : World → Prop} (hK : ∀ w1, Gd w0 w1 g R fz Al nl cl A n c f Af nf cf o → K w1) : MayC w ⟨g, 1, none⟩ ∧ Let (w.setCell ⟨g, 1, none⟩ (.slice A n c)) K := by
  obtain ⟨oL, oW, AL, m, cL, AW, cW, vL, vW, total, H, sL, sW, kp⟩ := h
  exact of_set 0 H rfl (Nat.lt_of_lt_of_le (by decide : 1 < 25) (Nat.le_refl 25)) fun w1 H => hK w1 ⟨oL, oW, AL, m, cL, AW, cW, vL, vW, total, H, sL, sW, kp⟩
theorem Gd.setBody (h : Gd w0 w g R fz Al nl cl As ns cs f Af nf cf o) {A : Option Addr} {n c : Nat} {K : World → Prop} (hK : ∀ w1, Gd w0 w1 g R fz Al nl cl As ns cs f A n c o → K w1) : MayC w ⟨g, 15, none⟩ ∧ Let (w.setCell ⟨g, 15, none⟩ (.slice A n c)) K := by
  obtain ⟨oL, oW, AL, m, cL, AW, cW, vL, vW, total, H, sL, sW, kp⟩ := h
  exact of_set 0 H rfl (Nat.lt_of_lt_of_le (by decide : 15 < 25) (Nat.le_refl 25)) fun w1 H => hK w1 ⟨oL, oW, AL, m, cL, AW, cW, vL, vW, total, H, sL, sW, kp⟩
theorem Gd.putOuter (h : Gd w0 w g R fz Al nl cl As ns cs f Af nf cf o) {o' : Ot} {K : World → Prop} (hK : ∀ w1, Gd w0 w1 g R fz Al nl cl As ns cs f Af nf cf o' → K w1) : May w ⟨g, 16, none⟩ 6 ∧ Let (putCells w ⟨g, 16, none⟩ (ov o') 0) K := by
  obtain ⟨oL, oW, AL, m, cL, AW, cW, vL, vW, total, H, sL, sW, kp⟩ := h
  exact of_put 0 H rfl rfl (Nat.le_trans (by decide : 16 + 6 ≤ 25) (Nat.le_refl 25)) fun w1 H => hK w1 ⟨oL, oW, AL, m, cL, AW, cW, vL, vW, total, H, sL, sW, kp⟩
theorem Gd.putFrame (h : Gd w0 w g R fz Al nl cl As ns cs f Af nf cf o) {f' : Fr} {A : Option Addr} {n c : Nat} {K : World → Prop} (hK : ∀ w1, Gd w0 w1 g R fz Al nl cl As ns cs f' A n c o → K w1) : May w ⟨g, 2, none⟩ 14 ∧ Let (putCells w ⟨g, 2, none⟩ (fv f' A n c) 0) K := by
  obtain ⟨oL, oW, AL, m, cL, AW, cW, vL, vW, total, H, sL, sW, kp⟩ := h
  exact of_put 0 H rfl rfl (Nat.le_trans (by decide : 2 + 14 ≤ 25) (Nat.le_refl 25)) fun w1 H => hK w1 ⟨oL, oW, AL, m, cL, AW, cW, vL, vW, total, H, sL, sW, kp⟩
/-- A byte of a list of one's own is written. -/
theorem Gd.byte {ol : Option Blk} {A : Option Addr} {n c : Nat} {l : List Int} (h : Gd w0 w g (ol.toList ++ R) fz Al nl cl As ns cs f Af nf cf o) (sl : SL ol A n c l) {k : Nat} (hk : k < n) : ∃ b, A = some ⟨b, 0, none⟩ ∧ ∀ {x : Int} {K : World → Prop},
    (∀ w1 (ol' : Option Blk), Gd w0 w1 g (ol'.toList ++ R) fz Al nl cl As ns cs f Af nf cf o → SL ol' A n c (l.set k x) → K w1) → MayC w ⟨b, k, none⟩ ∧ Let (w.setCell ⟨b, k, none⟩ (.int .u8 x)) K := by
  have hn := sl.1
  rcases sl.2 with ⟨rfl, rfl, rfl, rfl⟩ | ⟨b, pad, rfl, rfl, rfl⟩
  · simp at hn; omega
  refine ⟨b, rfl, fun {x K} hK => ?_⟩
  obtain ⟨oL, oW, AL, m, cL, AW, cW, vL, vW, total, H, sL, sW, kp⟩ := h
  have p1 : ∀ q : Blk, (oL.toList ++ (oW.toList ++ ((some q).toList ++ R))).Perm (q :: (oL.toList ++ (oW.toList ++ R))) := fun q => ((List.perm_append_comm_assoc oW.toList [q] R).append_left oL.toList).trans (List.perm_append_comm_assoc oL.toList [q] _)
  have p2 : ∀ y q : Blk, (y :: (oL.toList ++ (oW.toList ++ ((some q).toList ++ R)))).Perm (q :: y :: (oL.toList ++ (oW.toList ++ R))) := fun y q => ((p1 q).cons y).trans (List.Perm.swap _ _ _)
  refine of_set 0 (H.perm (p2 _ _)) rfl (by rw [bv_len]; simp; omega) fun w1 H1 => ?_
  refine hK w1 (some (b, 5, bv (l.set k x ++ pad))) ⟨oL, oW, AL, m, cL, AW, cW, vL, vW, total, ?_, sL, sW, kp⟩ ⟨by rw [List.length_set]; exact hn, Or.inr ⟨b, pad, rfl, rfl, by rw [List.length_set]⟩⟩
  have e : (bv (l ++ pad)).set k (.int .u8 x) = bv (l.set k x ++ pad) := by rw [bv_set, List.set_append_left _ _ (by omega)]
  have H2 : OF w0 w1 ((b, 5, (bv (l ++ pad)).set k (.int .u8 x)) :: (g, 73, stc Al nl cl As ns cs f Af nf cf o AL m cL AW m cW total) :: (oL.toList ++ (oW.toList ++ R))) fz := H1
  rw [e] at H2
  exact H2.perm (p2 _ _).symm
end
/-- What holds between the steps; Q: a step's own memory. -/
def Iv (w0 w : World) (g : Nat) (Q : List Blk) : Prop :=
  ∃ (ol og : Option Blk) (Al : Option Addr) (nl cl : Nat) (last : List Int) (As : Option Addr) (ns cs : Nat) (sealed : List Int) (f : Fr) (Af : Option Addr) (nf cf : Nat) (o : Ot) (fz : List Lst),
    Gd w0 w g (Q ++ (ol.toList ++ og.toList)) fz Al nl cl As ns cs f Af nf cf o ∧ SL ol Al nl cl last ∧ SL og Af nf cf f.body ∧ Bytes last ∧ nl ≤ 2000000 ∧ f.Fine ∧ o.Fine ∧ nf ≤ 2000000 ∧ (As, ns, sealed) ∈ fz ∧ Bytes sealed ∧ ns ≤ 300000
section
variable {w0 w : World} {g : Nat} {Q : List Blk}
theorem Iv.call {w' : World} (h : Iv w0 w g Q) (k : Bel w w') : Iv w0 w' g Q := by
  obtain ⟨ol, og, Al, nl, cl, last, As, ns, cs, sealed, f, Af, nf, cf, o, fz, G, t⟩ := h
  exact ⟨ol, og, Al, nl, cl, last, As, ns, cs, sealed, f, Af, nf, cf, o, fz, G.call k, t⟩
theorem Iv.join {w' : World} (h : Iv w0 w g []) (k : Own w w' Q) : Iv w0 w' g Q := by
  obtain ⟨ol, og, Al, nl, cl, last, As, ns, cs, sealed, f, Af, nf, cf, o, fz, G, t⟩ := h
  exact ⟨ol, og, Al, nl, cl, last, As, ns, cs, sealed, f, Af, nf, cf, o, fz, G.join k, t⟩
theorem Iv.drop (h : Iv w0 w g Q) : Iv w0 w g [] := by
  obtain ⟨ol, og, Al, nl, cl, last, As, ns, cs, sealed, f, Af, nf, cf, o, fz, G, t⟩ := h
  exact ⟨ol, og, Al, nl, cl, last, As, ns, cs, sealed, f, Af, nf, cf, o, fz, G.drop, t⟩
theorem asks_v (h : Iv w0 w g Q) {src dst : Int} (hs : 0 ≤ src ∧ src ≤ 4294967295) (hd : 0 ≤ dst ∧ dst ≤ 4294967295) :
    Calls Try.prog 59 #[.pointer (some ⟨g, 0, none⟩), .int .u32 src, .int .u32 dst] w (fun e w' => e = .returned (.bool true) ∧ Iv w0 w' g []) := by
  obtain ⟨ol, og, Al, nl, cl, last, As, ns, cs, sealed, f, Af, nf, cf, o, fz, G, t1, t2, t3, t4, t5, t6, t7, t8, t9, t10⟩ := h
  obtain ⟨P, HP⟩ := G.ownP
  have y := SL.by (M := (P ++ Q) ++ og.toList) ((show Own w0 w ((P ++ Q) ++ (ol.toList ++ og.toList)) by rw [List.append_assoc]; exact HP).perm (List.perm_append_comm_assoc _ _ _)) t1
  refine call_of (asks_t G y.1 t3 y.2 (by omega) hs hd) ?_
  rintro e w' ⟨rfl, fz', k, G'⟩
  exact ⟨rfl, ol, og, Al, nl, cl, last, As, ns, cs, sealed, f, Af, nf, cf, o, fz', G'.drop, t1, t2, t3, t4, t5, t6, t7, k t8, t9, t10⟩
theorem writes_v (h : Iv w0 w g Q) : Calls Try.prog 60 #[.pointer (some ⟨g, 0, none⟩)] w (fun e w' => e = .returned (.bool true) ∧ Iv w0 w' g []) := by
  obtain ⟨ol, og, Al, nl, cl, last, As, ns, cs, sealed, f, Af, nf, cf, o, fz, G, t1, t2, t3, t4, t5, t6, t7, t8, t9, t10⟩ := h
  obtain ⟨P, HP⟩ := G.ownP
  have y := SL.by (M := (P ++ Q) ++ ol.toList) ((show Own w0 w (((P ++ Q) ++ ol.toList) ++ og.toList) by rw [List.append_assoc, List.append_assoc]; exact HP).perm List.perm_append_comm) t2
  refine call_of (writes_t G t5 t6 y.1 y.2 (by omega)) ?_
  rintro e w' ⟨rfl, fz', k, G'⟩
  exact ⟨rfl, ol, og, Al, nl, cl, last, As, ns, cs, sealed, f, Af, nf, cf, o, fz', G'.drop, t1, t2, t3, t4, t5, t6, t7, k t8, t9, t10⟩
end
end Go.Proofs.YtleelkkddjldnaaS
