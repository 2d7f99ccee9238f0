/- Package weftlaw3: answers that are kept untouched, then written full one after another.
   Conditions: none. -/
import Derived.Test.YtchdcdmdbjkihaaSKeepD
namespace Go.Proofs.YtchdcdmdbjkihaaS
open Go Go.RowKit Go.Proofs Go.Proofs.YtchdcdmdbjkihaaX
set_option maxRecDepth 100000
set_option linter.unusedVariables false
set_option linter.unusedSectionVars false
set_option linter.unusedSimpArgs false

/-- A list that was answered: where it lies. -/
structure Rt where
  A : Option Addr
  n : Nat
  c : Nat
abbrev Rt.v (x : Rt) : Value := .slice x.A x.n x.c
def InP (P : List Blk) (x : Rt) : Prop := x.n ≤ x.c ∧ x.n ≤ 1000000000 ∧ x.c ≤ 9223372036854775807 ∧ ((x.A = none ∧ x.c = 0) ∨ ∃ gg f X, x.A = some ⟨gg, f, none⟩ ∧ ((gg, 5, bv X) : Blk) ∈ P ∧ f + x.c ≤ X.length)
theorem InP.mono {P P' : List Blk} {x : Rt} (h : InP P x) (k : P ⊆ P') : InP P' x :=
  ⟨h.1, h.2.1, h.2.2.1, h.2.2.2.imp id fun ⟨gg, f, X, h1, h2, h3⟩ => ⟨gg, f, X, h1, k h2, h3⟩⟩
/-- The list of the lists that were answered, and the blocks in which they lie. -/
def Got (w0 w : World) (R : List Blk) (oA : Option Blk) (A : Option Addr) (k c : Nat) (P : List Blk) (vs : List Rt) : Prop :=
  OF w0 w (oA.toList ++ (P ++ R)) [] ∧ RV 30 1 oA A k c (vs.map Rt.v) ∧ vs.length = k ∧ (∀ x ∈ vs, InP P x) ∧ vs.Pairwise fun x y => Apt x.A x.c y.A y.c
theorem mem_own {w0 w : World} {L : List Blk} (h : Own w0 w L) {p : Blk} (hp : p ∈ L) : Bk w p.1 p.2.1 p.2.2 := by
  obtain ⟨i, hi⟩ := List.mem_iff_getElem?.1 hp
  exact h.bk i (g := p.1) (t := p.2.1) (l := p.2.2) hi
theorem bv_inj : ∀ {a b : List Int}, bv a = bv b → a = b
  | [], [], _ => rfl
  | [], y :: b, h => by cases h
  | x :: a, [], h => by cases h
  | x :: a, y :: b, h => by
    have h : Value.int .u8 x :: bv a = Value.int .u8 y :: bv b := h
    injection h with h1 h2
    injection h1 with _ h3
    rw [h3, bv_inj h2]
section
variable {w0 w w' : World} {R : List Blk} {oA : Option Blk} {AL : Option Addr} {k cL : Nat} {P : List Blk} {vs : List Rt}
theorem got_two (h : Got w0 w R oA AL k cL P vs) (kb : Bel w w') {A : Option Addr} {n c : Nat} {B : Option Addr} {m d : Nat} (r : Rm2 w' A c B d) (fA : Fre w A) (fB : Fre w B) (h1 : n ≤ c) (h2 : m ≤ d) (h3 : n ≤ 1000000000) (h4 : m ≤ 1000000000) :
    ∃ P', OF w0 w' (oA.toList ++ (P' ++ R)) [] ∧ (∀ x ∈ vs, InP P' x) ∧ InP P' ⟨A, n, c⟩ ∧ InP P' ⟨B, m, d⟩ ∧ (∀ x ∈ vs, Apt x.A x.c A c) ∧ (∀ x ∈ vs, Apt x.A x.c B d) := by
  obtain ⟨H, qA, hk, hin, hpw⟩ := h
  have old : ∀ (C : Option Addr) (e : Nat), Fre w C → ∀ x ∈ vs, Apt x.A x.c C e := fun C e hC x hx gg f f' e1 e2 => by
    rcases (hin x hx).2.2.2 with ⟨e3, _⟩ | ⟨g1, f1, X, e3, hm, _⟩
    · rw [e3] at e1; cases e1
    · rw [e3] at e1
      injection e1 with e1
      injection e1 with e1 _ _
      subst e1
      have l1 := (mem_own H.own (List.mem_append.2 (Or.inr (List.mem_append.2 (Or.inl hm))))).lt
      have l2 : w.heap.size ≤ g1 := hC _ e2
      have l1 : g1 < w.heap.size := l1
      omega
  have add : ∀ N : List Blk, OF w0 w' (N ++ (oA.toList ++ (P ++ R))) [] → OF w0 w' (oA.toList ++ ((N ++ P) ++ R)) [] := fun N H => by
    rw [List.append_assoc]
    exact H.perm (List.perm_append_comm_assoc _ _ _)
  have sub : ∀ N : List Blk, P ⊆ N ++ P := fun N => List.subset_append_right _ _
  by_cases hs : ∃ g1 f1 f2, A = some ⟨g1, f1, none⟩ ∧ B = some ⟨g1, f2, none⟩
  · obtain ⟨g1, f1, f2, rfl, rfl⟩ := hs
    rcases r.a with ⟨e, _⟩ | ⟨g1', f1', X, e, hbA, hlA⟩
    · cases e
    injection e with e
    injection e with e1 e2 e3
    subst e1 e2
    rcases r.b with ⟨e, _⟩ | ⟨g2', f2', Y, e, hbB, hlB⟩
    · cases e
    injection e with e
    injection e with e1 e2 e3
    subst e1 e2
    have eXY : X = Y := by
      have := hbA.symm.trans hbB
      simp only [Option.some.injEq, Obj.cells.injEq] at this
      have h2 := congrArg Array.toList this.1
      exact bv_inj (by simpa using h2)
    subst eXY
    refine ⟨[(g1, 5, bv X)] ++ P, add _ (H.adopt kb hbA (fA _ rfl)), fun x hx => (hin x hx).mono (sub _), ⟨h1, h3, r.a.le, Or.inr ⟨g1, f1, X, rfl, List.mem_cons_self, hlA.1⟩⟩, ⟨h2, h4, r.b.le, Or.inr ⟨g1, f2, X, rfl, List.mem_cons_self, hlB.1⟩⟩, old _ _ fA, old _ _ fB⟩
  · rcases r.a with ⟨rfl, rfl⟩ | ⟨g1, f, X, rfl, hb, hl⟩
    · rcases r.b with ⟨rfl, rfl⟩ | ⟨g2, f', Y, rfl, hb', hl'⟩
      · exact ⟨P, H.call kb, hin, ⟨h1, h3, r.a.le, Or.inl ⟨rfl, rfl⟩⟩, ⟨h2, h4, r.b.le, Or.inl ⟨rfl, rfl⟩⟩, old _ _ fA, old _ _ fB⟩
      · exact ⟨[(g2, 5, bv Y)] ++ P, add _ (H.adopt kb hb' (fB _ rfl)), fun x hx => (hin x hx).mono (sub _), ⟨h1, h3, r.a.le, Or.inl ⟨rfl, rfl⟩⟩, ⟨h2, h4, r.b.le, Or.inr ⟨g2, f', Y, rfl, List.mem_cons_self, hl'.1⟩⟩, old _ _ fA, old _ _ fB⟩
    · rcases r.b with ⟨rfl, rfl⟩ | ⟨g2, f', Y, rfl, hb', hl'⟩
      · exact ⟨[(g1, 5, bv X)] ++ P, add _ (H.adopt kb hb (fA _ rfl)), fun x hx => (hin x hx).mono (sub _), ⟨h1, h3, r.a.le, Or.inr ⟨g1, f, X, rfl, List.mem_cons_self, hl.1⟩⟩, ⟨h2, h4, r.b.le, Or.inl ⟨rfl, rfl⟩⟩, old _ _ fA, old _ _ fB⟩
      · have hne : g1 ≠ g2 := fun e => hs ⟨g1, f, f', rfl, by rw [e]⟩
        exact ⟨[(g1, 5, bv X), (g2, 5, bv Y)] ++ P, add _ (H.adopt2 kb hb (fA _ rfl) hb' (fB _ rfl) hne), fun x hx => (hin x hx).mono (sub _), ⟨h1, h3, r.a.le, Or.inr ⟨g1, f, X, rfl, List.mem_cons_self, hl.1⟩⟩, ⟨h2, h4, r.b.le, Or.inr ⟨g2, f', Y, rfl, List.mem_cons_of_mem _ List.mem_cons_self, hl'.1⟩⟩, old _ _ fA, old _ _ fB⟩
/-- All blocks that are written no more. -/
theorem OF.iceP {cs E : List Lst} (h : OF w0 w (P ++ R) cs) (hE : ∀ x ∈ E, By w x.1 x.2.1 x.2.2 ∧ (0 < x.2.1 → ∃ p ∈ P, ∃ o, x.1 = some ⟨p.1, o, none⟩)) : OF w0 w R (E ++ cs) :=
  ⟨h.own.less, fun x hx => by
    rcases List.mem_append.1 hx with hx | hx
    · refine ⟨(hE x hx).1, fun hn b e p hp => ?_⟩
      obtain ⟨q, hq, o, e2⟩ := (hE x hx).2 hn
      rw [e] at e2
      injection e2 with e2
      subst e2
      have := h.own.one
      rw [List.map_append, List.nodup_append] at this
      exact this.2.2 _ (List.mem_map.2 ⟨q, hq, rfl⟩) _ (List.mem_map.2 ⟨p, hp, rfl⟩)
    · exact (OF.less h).fz x hx⟩
/-- Between the writings: y: what is still to be written. -/
def Wrt (w0 w : World) (g : Nat) (R : List Blk) (ys : List Rt) (Zb : Int) : Prop :=
  ∃ (AL : Option Addr) (nL cL : Nat) (AM : Option Addr) (nM cM : Nat) (oL oM : Option Blk) (es : List Ent) (z : Int) (cs : List Lst) (P : List Blk),
    OF w0 w ((g, 29, bkv AL nL cL AM nM cM z) :: (oL.toList ++ (oM.toList ++ (P ++ R)))) cs ∧ RV 30 1 oL AL nL cL (es.map Ent.v) ∧ RV 3 1 oM AM nM cM (es.map Ent.k) ∧ es.length = nL ∧ nM = nL ∧
    (∀ x ∈ es, x.n ≤ 1000000000000000 ∧ (x.l ∈ cs ∨ ∃ g0 fa X, ((g0, 5, bv X) : Blk) ∈ P ∧ x.A = some ⟨g0, fa, none⟩ ∧ Pt x.m fa x.n X ∧ ∀ y ∈ ys, ∀ f', y.A = some ⟨g0, f', none⟩ → Dis fa x.n f' y.c)) ∧
    (∀ y ∈ ys, InP P y) ∧ ys.Pairwise (fun x y => Apt x.A x.c y.A y.c) ∧ 100 * (nL : Int) ≤ z ∧ nL ≤ 40000 ∧ z ≤ Zb
def RetW (w0 : World) (g : Nat) (R : List Blk) (ys : List Rt) (Zb : Int) (e : Ending) (w' : World) : Prop := e = .returned (.tuple #[]) ∧ Wrt w0 w' g R ys Zb
theorem wrt_keep {g : Nat} {y : Rt} {ys : List Rt} {Zb : Int} (h : Wrt w0 w g R (y :: ys) Zb) (hZ : Zb ≤ 1000000000000000000) :
    Calls Try.prog 10 #[.pointer (some ⟨g, 0, none⟩), .slice y.A y.n y.c] w (RetW w0 g R ys (Zb + 2000000000)) := by
  obtain ⟨AL, nL, cL, AM, nM, cM, oL, oM, es, z, cs, P, H, qL, qM, hes, hnM, he, hin, hpw, hz1, hz2, hz3⟩ := h
  obtain ⟨y1, y2, y3, y4⟩ := hin y List.mem_cons_self
  rw [List.pairwise_cons] at hpw
  rcases y4 with ⟨eA, ec⟩ | ⟨gg, f, X, eA, hm, hl⟩
  · have H1 : OF w0 w ((g, 29, bkv AL nL cL AM nM cM z) :: (oL.toList ++ (oM.toList ++ ((none : Option Blk).toList ++ (P ++ R))))) cs := H
    refine call_of (keep_c (ob := none) (f := 0) (X := []) qL qM hes hnM (by omega) y1 y3 (by omega) (by omega) (by omega) H1 (Or.inl ⟨rfl, eA, ec⟩)) ?_
    rintro e w1 ⟨rfl, AL', nL', cL', AM', nM', cM', oL', oM', ob2, es4, X', cs', kk, m, H3, qL', qM', hes', hnM', rg', out, hp, hk, hsub, hx4, hgrow⟩
    have hz4 : 100 * (nL' : Int) ≤ z + y.n + 400 ∧ nL' ≤ 40000 := by
      rcases hgrow with rfl | ⟨h4, hzz⟩
      · rw [List.append_nil] at hes'
        omega
      · rw [List.length_append, h4] at hes'
        omega
    obtain ⟨E, hE, hinE⟩ := split_ents (fun x => x.A = y.A ∧ x.n ≤ kk ∧ x.m = m) es4 fun x hx => (hx4 x hx).2
    have H4 := (H3.perm (mv3 _ _ _ _ _)).iceO (E := E.map Ent.l) rg' fun z hz => by
      obtain ⟨x, hx, rfl⟩ := List.mem_map.1 hz
      obtain ⟨x1, x2, x3⟩ := hE x hx
      refine ⟨?_, x1, by show x.n ≤ y.c; omega⟩
      show By w1 x.A x.n (pt x.m x.n)
      rw [x1, x3]
      exact rg'.pt (H3.perm (mv3 _ _ _ _ _)).own (by omega) x2 hp
    refine ⟨rfl, AL', nL', cL', AM', nM', cM', oL', oM', es ++ es4, z + y.n + 400, _, P, H4, qL', qM', hes', hnM', fun x hx => ?_, fun y hy => hin y (List.mem_cons_of_mem _ hy), hpw.2, hz4.1, hz4.2, by omega⟩
    rcases List.mem_append.1 hx with hx | hx
    · obtain ⟨b, hb⟩ := he x hx
      refine ⟨b, hb.imp (fun h => List.mem_append.2 (Or.inr (hsub h))) fun ⟨g0, fa, X, q1, q2, q3, q4⟩ => ⟨g0, fa, X, q1, q2, q3, fun y hy => q4 y (List.mem_cons_of_mem _ hy)⟩⟩
    · exact ⟨by have := (hx4 x hx).1; omega, Or.inl (hinE x hx)⟩
  · obtain ⟨P1, P2, rfl⟩ := List.append_of_mem hm
    have H1 : OF w0 w ((g, 29, bkv AL nL cL AM nM cM z) :: (oL.toList ++ (oM.toList ++ ((some (gg, 5, bv X) : Option Blk).toList ++ ((P1 ++ P2) ++ R))))) cs := by
      refine H.perm (List.Perm.cons _ (List.Perm.append_left _ (List.Perm.append_left _ ?_)))
      exact List.Perm.append_right R (List.perm_middle)
    refine call_of (keep_c (ob := some (gg, 5, bv X)) (f := f) (X := X) qL qM hes hnM (by omega) y1 y3 (by omega) (by omega) (by omega) H1 (Or.inr ⟨_, rfl, eA, hl⟩)) ?_
    rintro e w1 ⟨rfl, AL', nL', cL', AM', nM', cM', oL', oM', ob2, es4, X', cs', kk, m, H3, qL', qM', hes', hnM', rg', out, hp, hk, hsub, hx4, hgrow⟩
    have hz4 : 100 * (nL' : Int) ≤ z + y.n + 400 ∧ nL' ≤ 40000 := by
      rcases hgrow with rfl | ⟨h4, hzz⟩
      · rw [List.append_nil] at hes'
        omega
      · rw [List.length_append, h4] at hes'
        omega
    rcases rg' with ⟨_, e, _⟩ | ⟨g3, rfl, e, hl'⟩
    · rw [eA] at e; cases e
    rw [eA] at e
    injection e with e
    injection e with e1 e2 e3
    subst e1
    have nod : ∀ (l : List Value), ((gg, 5, l) : Blk) ∈ P1 ++ ((gg, 5, bv X) :: P2) → l = bv X := fun l hl2 => by
      have b1 := mem_own H.own (p := (gg, 5, l)) (List.mem_cons_of_mem _ (List.mem_append.2 (Or.inr (List.mem_append.2 (Or.inr (List.mem_append.2 (Or.inl hl2)))))))
      have b2 := mem_own H.own (p := (gg, 5, bv X)) (List.mem_cons_of_mem _ (List.mem_append.2 (Or.inr (List.mem_append.2 (Or.inr (List.mem_append.2 (Or.inl (List.mem_append.2 (Or.inr List.mem_cons_self))))))))) 
      have := b1.symm.trans b2
      simp only [Option.some.injEq, Obj.cells.injEq] at this
      have h2 := congrArg Array.toList this.1
      simpa using h2
    have mvP : ∀ {g0 : Nat} {X0 : List Int}, ((g0, 5, bv X0) : Blk) ∈ P1 ++ ((gg, 5, bv X) :: P2) → (g0 = gg ∧ X0 = X) ∨ ((g0, 5, bv X0) : Blk) ∈ (gg, 5, bv X') :: (P1 ++ P2) := fun {g0 X0} h0 => by
      by_cases hg : g0 = gg
      · subst hg
        exact Or.inl ⟨rfl, bv_inj (nod _ h0)⟩
      · right
        rcases List.mem_append.1 h0 with h | h
        · exact List.mem_cons_of_mem _ (List.mem_append.2 (Or.inl h))
        · rcases List.mem_cons.1 h with h | h
          · simp only [Prod.mk.injEq] at h
            exact absurd h.1 hg
          · exact List.mem_cons_of_mem _ (List.mem_append.2 (Or.inr h))
    refine ⟨rfl, AL', nL', cL', AM', nM', cM', oL', oM', es ++ es4, z + y.n + 400, cs', (gg, 5, bv X') :: (P1 ++ P2), H3, qL', qM', hes', hnM', fun x hx => ?_, fun y' hy' => ?_, hpw.2, hz4.1, hz4.2, by omega⟩
    · rcases List.mem_append.1 hx with hx | hx
      · obtain ⟨b, hb⟩ := he x hx
        refine ⟨b, hb.imp (fun h => hsub h) fun ⟨g0, fa, X0, q1, q2, q3, q4⟩ => ?_⟩
        rcases mvP q1 with ⟨rfl, rfl⟩ | q5
        · refine ⟨g0, fa, X', List.mem_cons_self, q2, fun j hj => ?_, fun y hy => q4 y (List.mem_cons_of_mem _ hy)⟩
          have hd := q4 y List.mem_cons_self f eA
          unfold Dis at hd
          rw [out.2 _ (by omega)]
          exact q3 j hj
        · exact ⟨g0, fa, X0, q5, q2, q3, fun y hy => q4 y (List.mem_cons_of_mem _ hy)⟩
      · obtain ⟨hxn, hx⟩ := hx4 x hx
        refine ⟨by omega, hx.imp id fun ⟨x1, x2, x3⟩ => ⟨gg, f, X', List.mem_cons_self, by rw [x1]; exact eA, by rw [x3]; exact hp.mono x2, fun y' hy' f' e' => ?_⟩⟩
        have hd := hpw.1 y' hy' gg f f' eA e'
        unfold Dis at hd ⊢
        omega
    · obtain ⟨i1, i2, i3, i4⟩ := hin y' (List.mem_cons_of_mem _ hy')
      refine ⟨i1, i2, i3, i4.imp id fun ⟨g0, f0, X0, q1, q2, q3⟩ => ?_⟩
      rcases mvP q2 with ⟨rfl, rfl⟩ | q5
      · exact ⟨g0, f0, X', q1, List.mem_cons_self, by rw [out.1]; exact q3⟩
      · exact ⟨g0, f0, X0, q1, q5, q3⟩
theorem wrt_whole {g : Nat} {Zb : Int} (h : Wrt w0 w g R [] Zb) : Calls Try.prog 13 #[.pointer (some ⟨g, 0, none⟩)] w (YesB w) := by
  obtain ⟨AL, nL, cL, AM, nM, cM, oL, oM, es, z, cs, P, H, qL, qM, hes, hnM, he, hin, hpw, hz1, hz2, hz3⟩ := h
  obtain ⟨E, hE, hinE⟩ := split_ents (cs' := cs) (fun x => ∃ g0 fa X, ((g0, 5, bv X) : Blk) ∈ P ∧ x.A = some ⟨g0, fa, none⟩ ∧ Pt x.m fa x.n X ∧ ∀ y ∈ ([] : List Rt), ∀ f', y.A = some ⟨g0, f', none⟩ → Dis fa x.n f' y.c) es fun x hx => (he x hx).2
  have H1 := H.perm (mv3 _ _ _ _ _)
  have H2 := H1.iceP (E := E.map Ent.l) fun u hu => by
    obtain ⟨x, hx, rfl⟩ := List.mem_map.1 hu
    obtain ⟨g0, fa, X, q1, q2, q3, _⟩ := hE x hx
    refine ⟨?_, fun _ => ⟨_, q1, fa, q2⟩⟩
    show By w x.A x.n (pt x.m x.n)
    rw [q2]
    exact bk_sub (mem_own H1.own (List.mem_append.2 (Or.inl q1))) (pt_len _ _) fun j hj => by rw [q3 j hj, pt_get x.m hj]
  exact whole_c (z := z) (R := R) qL qM hes hnM (by omega) (fun x hx => ⟨hinE x hx, (he x hx).1⟩) H2
end
end Go.Proofs.YtchdcdmdbjkihaaS
