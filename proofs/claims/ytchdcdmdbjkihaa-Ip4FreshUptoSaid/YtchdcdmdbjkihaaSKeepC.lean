/- Package weftlaw3: an answer's lists go into the book.
   Conditions: the lists lie in blocks that came since. -/
import Derived.Test.YtchdcdmdbjkihaaSKeepB
namespace Go.Proofs.YtchdcdmdbjkihaaS
open Go Go.RowKit Go.Proofs Go.Proofs.YtchdcdmdbjkihaaX
set_option maxRecDepth 100000
set_option linter.unusedVariables false
set_option linter.unusedSectionVars false
set_option linter.unusedSimpArgs false

def Dis (f c f' c' : Nat) : Prop := f + c ≤ f' ∨ f' + c' ≤ f ∨ c = 0 ∨ c' = 0
/-- Two lists' rooms apart. -/
def Apt (A : Option Addr) (c : Nat) (B : Option Addr) (d : Nat) : Prop := ∀ g f f', A = some ⟨g, f, none⟩ → B = some ⟨g, f', none⟩ → Dis f c f' d
theorem Rm2.apt {w : World} {A B : Option Addr} {c d : Nat} (h : Rm2 w A c B d) : Apt A c B d := fun g f f' e1 e2 => by
  rcases h.ap _ _ e1 e2 rfl with k | k
  · exact Or.inl k
  · exact Or.inr (Or.inr (Or.inr k))
theorem Apt.symm {A B : Option Addr} {c d : Nat} (h : Apt A c B d) : Apt B d A c := fun g f f' e1 e2 => by
  rcases h g f' f e2 e1 with k | k | k | k
  · exact Or.inr (Or.inl k)
  · exact Or.inl k
  · exact Or.inr (Or.inr (Or.inr k))
  · exact Or.inr (Or.inr (Or.inl k))
theorem Apt.nil {A : Option Addr} {c : Nat} : Apt A c none 0 := fun g f f' _ e => by cases e
/-- The book, a list's room still one's own: B[:..:d]. -/
def Pend (w0 w : World) (g : Nat) (R : List Blk) (Zb : Int) (B : Option Addr) (d : Nat) : Prop :=
  ∃ (AL : Option Addr) (nL cL : Nat) (AM : Option Addr) (nM cM : Nat) (oL oM ob : Option Blk) (es : List Ent) (z : Int) (cs : List Lst) (f : Nat) (X : List Int),
    OF w0 w ((g, 29, bkv AL nL cL AM nM cM z) :: (oL.toList ++ (oM.toList ++ (ob.toList ++ R)))) cs ∧ RV 30 1 oL AL nL cL (es.map Ent.v) ∧ RV 3 1 oM AM nM cM (es.map Ent.k) ∧ es.length = nL ∧ nM = nL ∧ Rg ob B d f X ∧
    (∀ x ∈ es, x.n ≤ 1000000000000000 ∧ (x.l ∈ cs ∨ ∃ g0 fa, ob = some (g0, 5, bv X) ∧ x.A = some ⟨g0, fa, none⟩ ∧ Dis fa x.n f d ∧ Pt x.m fa x.n X)) ∧ 100 * (nL : Int) ≤ z ∧ nL ≤ 40000 ∧ z ≤ Zb
/-- The book. -/
def BkAt (w0 w : World) (g : Nat) (R : List Blk) (Zb : Int) : Prop := Pend w0 w g R Zb none 0
theorem Pend.call {w0 w w' : World} {g : Nat} {R : List Blk} {Zb : Int} {B : Option Addr} {d : Nat} (h : Pend w0 w g R Zb B d) (k : Bel w w') : Pend w0 w' g R Zb B d :=
  let ⟨AL, nL, cL, AM, nM, cM, oL, oM, ob, es, z, cs, f, X, H, r⟩ := h
  ⟨AL, nL, cL, AM, nM, cM, oL, oM, ob, es, z, cs, f, X, H.call k, r⟩
theorem Pend.mono {w0 w : World} {g : Nat} {R : List Blk} {Zb Zb' : Int} {B : Option Addr} {d : Nat} (h : Pend w0 w g R Zb B d) (k : Zb ≤ Zb') : Pend w0 w g R Zb' B d :=
  let ⟨AL, nL, cL, AM, nM, cM, oL, oM, ob, es, z, cs, f, X, H, q1, q2, q3, q4, q5, q6, q7, q8, q9⟩ := h
  ⟨AL, nL, cL, AM, nM, cM, oL, oM, ob, es, z, cs, f, X, H, q1, q2, q3, q4, q5, q6, q7, q8, Int.le_trans q9 k⟩
section
variable {w0 a b w : World} {L R : List Blk} {cs : List Lst} {g : Nat}
/-- A block that came since is one's own. -/
theorem OF.adopt (h : OF w0 a L cs) (k : Bel a b) {g : Nat} {t : TypeId} {l : List Value} (hb : Bk b g t l) (hg : a.heap.size ≤ g) : OF w0 b ((g, t, l) :: L) cs := by
  refine OF.join (L := [(g, t, l)]) h ⟨k, fun i g' t' l' hi => ?_, by simp⟩
  cases i with
  | zero =>
    simp only [List.getElem?_cons_zero, Option.some.injEq, Prod.mk.injEq] at hi
    obtain ⟨rfl, rfl, rfl⟩ := hi
    exact ⟨hb, hg⟩
  | succ i => simp at hi
theorem rm_adopt (h : OF w0 a L cs) (k : Bel a b) {A : Option Addr} {c : Nat} (r : Rm b A c) (hf : Fre a A) : ∃ ob f X, OF w0 b (ob.toList ++ L) cs ∧ Rg ob A c f X := by
  rcases r with ⟨rfl, rfl⟩ | ⟨g, f, X, rfl, hb, hl⟩
  · exact ⟨none, 0, [], h.call k, Or.inl ⟨rfl, rfl, rfl⟩⟩
  · exact ⟨some (g, 5, bv X), f, X, h.adopt k hb (hf _ rfl), Or.inr ⟨g, rfl, rfl, hl.1⟩⟩
theorem OF.adopt2 (h : OF w0 a L cs) (k : Bel a b) {g g' : Nat} {t t' : TypeId} {l l' : List Value} (hb : Bk b g t l) (hg : a.heap.size ≤ g) (hb' : Bk b g' t' l') (hg' : a.heap.size ≤ g') (hne : g ≠ g') : OF w0 b ((g, t, l) :: (g', t', l') :: L) cs := by
  refine OF.join (L := [(g, t, l), (g', t', l')]) h ⟨k, fun i g1 t1 l1 hi => ?_, by simp [hne]⟩
  match i, hi with
  | 0, hi =>
    simp only [List.getElem?_cons_zero, Option.some.injEq, Prod.mk.injEq] at hi
    obtain ⟨rfl, rfl, rfl⟩ := hi
    exact ⟨hb, hg⟩
  | 1, hi =>
    simp only [List.getElem?_cons_succ, List.getElem?_cons_zero, Option.some.injEq, Prod.mk.injEq] at hi
    obtain ⟨rfl, rfl, rfl⟩ := hi
    exact ⟨hb', hg'⟩
  | i + 2, hi => simp at hi
theorem rm_adopt2 (h : OF w0 a L cs) (k : Bel a b) {A B : Option Addr} {c d : Nat} (r : Rm b A c) (hf : Fre a A) (r' : Rm b B d) (hf' : Fre a B) (hs : ¬ ∃ g1 f1 f2, A = some ⟨g1, f1, none⟩ ∧ B = some ⟨g1, f2, none⟩) :
    ∃ ob f X ob' f' Y, OF w0 b (ob.toList ++ (ob'.toList ++ L)) cs ∧ Rg ob A c f X ∧ Rg ob' B d f' Y := by
  rcases r with ⟨rfl, rfl⟩ | ⟨g, f, X, rfl, hb, hl⟩
  · obtain ⟨ob, f, X, h1, h2⟩ := rm_adopt h k r' hf'
    exact ⟨none, 0, [], ob, f, X, h1, Or.inl ⟨rfl, rfl, rfl⟩, h2⟩
  · rcases r' with ⟨rfl, rfl⟩ | ⟨g', f', Y, rfl, hb', hl'⟩
    · exact ⟨some (g, 5, bv X), f, X, none, 0, [], h.adopt k hb (hf _ rfl), Or.inr ⟨g, rfl, rfl, hl.1⟩, Or.inl ⟨rfl, rfl, rfl⟩⟩
    · have hne : g ≠ g' := fun e => hs ⟨g, f, f', rfl, by rw [e]⟩
      exact ⟨some (g, 5, bv X), f, X, some (g', 5, bv Y), f', Y, h.adopt2 k hb (hf _ rfl) hb' (hf' _ rfl) hne, Or.inr ⟨g, rfl, rfl, hl.1⟩, Or.inr ⟨g', rfl, rfl, hl'.1⟩⟩
theorem OF.iceO {ob : Option Blk} {A : Option Addr} {c f : Nat} {X : List Int} {E : List Lst} (h : OF w0 a (ob.toList ++ R) cs) (q : Rg ob A c f X) (hE : ∀ x ∈ E, By a x.1 x.2.1 x.2.2 ∧ x.1 = A ∧ x.2.1 ≤ c) : OF w0 a R (E ++ cs) := by
  rcases q with ⟨rfl, rfl, rfl⟩ | ⟨g, rfl, rfl, hl⟩
  · refine ⟨h.own, fun x hx => ?_⟩
    rcases List.mem_append.1 hx with hx | hx
    · exact ⟨(hE x hx).1, fun hn => by have := (hE x hx).2.2; omega⟩
    · exact h.fz x hx
  · exact OF.ice h fun x hx => ⟨(hE x hx).1, fun _ => ⟨f, (hE x hx).2.1⟩⟩
theorem split_ents (P : Ent → Prop) {cs' : List Lst} : ∀ (es4 : List Ent), (∀ x ∈ es4, x.l ∈ cs' ∨ P x) → ∃ E : List Ent, (∀ y ∈ E, P y) ∧ ∀ x ∈ es4, x.l ∈ E.map Ent.l ++ cs'
  | [], _ => ⟨[], (fun y hy => by cases hy), fun x hx => by cases hx⟩
  | e :: es4, h => by
    obtain ⟨E, h1, h2⟩ := split_ents P es4 fun x hx => h x (List.mem_cons_of_mem _ hx)
    rcases h e List.mem_cons_self with k | k
    · refine ⟨E, h1, fun x hx => ?_⟩
      rcases List.mem_cons.1 hx with rfl | hx
      · exact List.mem_append.2 (Or.inr k)
      · exact h2 x hx
    · refine ⟨e :: E, fun y hy => ?_, fun x hx => ?_⟩
      · rcases List.mem_cons.1 hy with rfl | hy
        · exact k
        · exact h1 y hy
      · rcases List.mem_cons.1 hx with rfl | hx
        · exact List.mem_append.2 (Or.inl (List.mem_map.2 ⟨_, List.mem_cons_self, rfl⟩))
        · rcases List.mem_append.1 (h2 x hx) with k | k
          · exact List.mem_append.2 (Or.inl (by rw [List.map_cons]; exact List.mem_cons_of_mem _ k))
          · exact List.mem_append.2 (Or.inr k)
theorem mv4 {α : Type} (b : α) (L M O R : List α) : (O ++ (b :: (L ++ (M ++ R)))).Perm (b :: (L ++ (M ++ (O ++ R)))) := (mv3 b L M O R).symm
def RetP (w0 : World) (g : Nat) (R : List Blk) (Zb : Int) (B : Option Addr) (d : Nat) (e : Ending) (w' : World) : Prop := e = .returned (.tuple #[]) ∧ Pend w0 w' g R Zb B d
/-- The book, two lists' rooms still one's own. -/
def Hold (w0 w : World) (g : Nat) (R : List Blk) (Zb : Int) (A : Option Addr) (c : Nat) (B : Option Addr) (d : Nat) : Prop :=
  (c ≤ 9223372036854775807 ∧ d ≤ 9223372036854775807) ∧ ((∃ ob f X ob' f' Y, BkAt w0 w g (ob.toList ++ (ob'.toList ++ R)) Zb ∧ Rg ob A c f X ∧ Rg ob' B d f' Y) ∨
    ∃ gg f f' X, BkAt w0 w g ((gg, 5, bv X) :: R) Zb ∧ A = some ⟨gg, f, none⟩ ∧ B = some ⟨gg, f', none⟩ ∧ f + c ≤ X.length ∧ f' + d ≤ X.length ∧ Dis f c f' d)
theorem Pend.mapR {a b : World} {R R' : List Blk} {Zb : Int} {B : Option Addr} {d : Nat} (h : Pend w0 a g R Zb B d) (f : ∀ (Q : List Blk) (cs : List Lst), OF w0 a (Q ++ R) cs → OF w0 b (Q ++ R') cs) : Pend w0 b g R' Zb B d := by
  obtain ⟨AL, nL, cL, AM, nM, cM, oL, oM, ob, es, z, cs, f', X, H, r⟩ := h
  have e : ∀ R : List Blk, (g, 29, bkv AL nL cL AM nM cM z) :: (oL.toList ++ (oM.toList ++ (ob.toList ++ R))) = ((g, 29, bkv AL nL cL AM nM cM z) :: (oL.toList ++ (oM.toList ++ ob.toList))) ++ R := fun R => by simp
  rw [e] at H
  have := f _ _ H
  rw [← e] at this
  exact ⟨AL, nL, cL, AM, nM, cM, oL, oM, ob, es, z, cs, f', X, this, r⟩
theorem hold_of {A : Option Addr} {c : Nat} {B : Option Addr} {d : Nat} {Zb : Int} (h : BkAt w0 a g R Zb) (k : Bel a w) (r : Rm2 w A c B d) (fA : Fre a A) (fB : Fre a B) : Hold w0 w g R Zb A c B d := by
  refine ⟨⟨r.a.le, r.b.le⟩, ?_⟩
  have ap := r.apt
  by_cases hs : ∃ g1 f1 f2, A = some ⟨g1, f1, none⟩ ∧ B = some ⟨g1, f2, none⟩
  · obtain ⟨g1, f1, f2, rfl, rfl⟩ := hs
    rcases r.a with ⟨e, _⟩ | ⟨g1', f1', X, e, hbA, hlA⟩
    · cases e
    injection e with e
    injection e with e1 e2 e3
    subst e1 e2
    rcases r.b with ⟨e, _⟩ | ⟨g2', f2', Y, e, hbB, hlB⟩
    · cases e
    injection e with e
    injection e with e1 e2 e3
    subst e1 e2
    have eXY : Y.length = X.length := by
      have e1 : bv X = bv Y := by
        have := hbA.symm.trans hbB
        simp only [Option.some.injEq, Obj.cells.injEq] at this
        have h2 := congrArg Array.toList this.1
        simpa using h2
      have := congrArg List.length e1
      rw [bv_len, bv_len] at this
      exact this.symm
    refine Or.inr ⟨g1, f1, f2, X, h.mapR fun Q cs H => ?_, rfl, rfl, hlA.1, by rw [← eXY]; exact hlB.1, ap _ _ _ rfl rfl⟩
    exact (H.adopt k hbA (fA _ rfl)).perm List.perm_middle.symm
  · rcases r.a with ⟨rfl, rfl⟩ | ⟨g1, f, X, rfl, hb, hl⟩
    · rcases r.b with ⟨rfl, rfl⟩ | ⟨g2, f', Y, rfl, hb', hl'⟩
      · exact Or.inl ⟨none, 0, [], none, 0, [], h.call k, Or.inl ⟨rfl, rfl, rfl⟩, Or.inl ⟨rfl, rfl, rfl⟩⟩
      · exact Or.inl ⟨none, 0, [], some (g2, 5, bv Y), f', Y, h.mapR fun Q cs H => (H.adopt k hb' (fB _ rfl)).perm List.perm_middle.symm, Or.inl ⟨rfl, rfl, rfl⟩, Or.inr ⟨g2, rfl, rfl, hl'.1⟩⟩
    · rcases r.b with ⟨rfl, rfl⟩ | ⟨g2, f', Y, rfl, hb', hl'⟩
      · exact Or.inl ⟨some (g1, 5, bv X), f, X, none, 0, [], h.mapR fun Q cs H => (H.adopt k hb (fA _ rfl)).perm List.perm_middle.symm, Or.inr ⟨g1, rfl, rfl, hl.1⟩, Or.inl ⟨rfl, rfl, rfl⟩⟩
      · have hne : g1 ≠ g2 := fun e => hs ⟨g1, f, f', rfl, by rw [e]⟩
        refine Or.inl ⟨some (g1, 5, bv X), f, X, some (g2, 5, bv Y), f', Y, h.mapR fun Q cs H => (H.adopt2 k hb (fA _ rfl) hb' (fB _ rfl) hne).perm ?_, Or.inr ⟨g1, rfl, rfl, hl.1⟩, Or.inr ⟨g2, rfl, rfl, hl'.1⟩⟩
        exact ((List.perm_middle.symm.cons _).trans List.perm_middle.symm)
theorem Hold.symm {A : Option Addr} {c : Nat} {B : Option Addr} {d : Nat} {Zb : Int} (h : Hold w0 w g R Zb A c B d) : Hold w0 w g R Zb B d A c := by
  refine ⟨⟨h.1.2, h.1.1⟩, ?_⟩
  rcases h.2 with ⟨ob, f, X, ob', f', Y, H, r1, r2⟩ | ⟨gg, f, f', X, H, e1, e2, l1, l2, hd⟩
  · exact Or.inl ⟨ob', f', Y, ob, f, X, H.mapR fun Q cs H => H.perm ((List.perm_append_comm_assoc _ _ _).append_left Q), r2, r1⟩
  · refine Or.inr ⟨gg, f', f, X, H, e2, e1, l2, l1, ?_⟩
    unfold Dis at hd ⊢
    omega
/-- The first of two lists goes into the book. -/
theorem keep_firstH {A : Option Addr} {n c : Nat} {B : Option Addr} {d : Nat} {Zb : Int} (h : Hold w0 w g R Zb A c B d) (hn : n ≤ c) (hn2 : n ≤ 1000000000) (hZ : Zb ≤ 1000000000000000000) :
    Calls Try.prog 10 #[.pointer (some ⟨g, 0, none⟩), .slice A n c] w (RetP w0 g R (Zb + 2000000000) B d) := by
  have hc := h.1.1
  rcases h.2 with ⟨ob, f, X, ob', f', Y, H, rgA, rgB⟩ | ⟨g1, f1, f2, X, H, rfl, rfl, hlA, hlB, hd⟩
  · obtain ⟨AL, nL, cL, AM, nM, cM, oL, oM, ob0, es, z, cs, f0, X0, H, qL, qM, hes, hnM, rg0, he, hz1, hz2, hz3⟩ := H
    obtain ⟨rfl, hcs⟩ : ob0 = none ∧ ∀ x ∈ es, x.n ≤ 1000000000000000 ∧ x.l ∈ cs := by
      rcases rg0 with ⟨rfl, _, _⟩ | ⟨_, _, e, _⟩
      · refine ⟨rfl, fun x hx => ⟨(he x hx).1, ?_⟩⟩
        rcases (he x hx).2 with k | ⟨_, _, e, _⟩
        · exact k
        · cases e
      · cases e
    have H2 : OF w0 w ((g, 29, bkv AL nL cL AM nM cM z) :: (oL.toList ++ (oM.toList ++ (ob.toList ++ (ob'.toList ++ R))))) cs := H
    refine call_of (keep_c qL qM hes hnM (by omega) hn hc (by omega) (by omega) (by omega) H2 rgA) ?_
    rintro e w1 ⟨rfl, AL', nL', cL', AM', nM', cM', oL', oM', ob2, es4, X', cs', kk, m, H3, qL', qM', hes', hnM', rg', out, hp, hk, hsub, hx4, hgrow⟩
    have hz4 : 100 * (nL' : Int) ≤ z + n + 400 ∧ nL' ≤ 40000 := by
      rcases hgrow with rfl | ⟨h4, hzz⟩
      · rw [List.append_nil] at hes'
        omega
      · rw [List.length_append, h4] at hes'
        omega
    obtain ⟨E, hE, hin⟩ := split_ents (fun x => x.A = A ∧ x.n ≤ kk ∧ x.m = m) es4 fun x hx => (hx4 x hx).2
    have H4 := (H3.perm (mv3 _ _ _ _ _)).iceO (E := E.map Ent.l) rg' fun y hy => by
      obtain ⟨x, hx, rfl⟩ := List.mem_map.1 hy
      obtain ⟨x1, x2, x3⟩ := hE x hx
      refine ⟨?_, x1, by show x.n ≤ c; omega⟩
      show By w1 x.A x.n (pt x.m x.n)
      rw [x1, x3]
      exact rg'.pt (H3.perm (mv3 _ _ _ _ _)).own (by omega) x2 hp
    refine ⟨rfl, AL', nL', cL', AM', nM', cM', oL', oM', ob', es ++ es4, z + n + 400, _, f', Y, H4, qL', qM', hes', hnM', rgB, fun x hx => ?_, hz4.1, hz4.2, by omega⟩
    rcases List.mem_append.1 hx with hx | hx
    · exact ⟨(hcs x hx).1, Or.inl (List.mem_append.2 (Or.inr (hsub (hcs x hx).2)))⟩
    · exact ⟨by have := (hx4 x hx).1; omega, Or.inl (hin x hx)⟩
  · obtain ⟨AL, nL, cL, AM, nM, cM, oL, oM, ob0, es, z, cs, f0, X0, H, qL, qM, hes, hnM, rg0, he, hz1, hz2, hz3⟩ := H
    obtain ⟨rfl, hcs⟩ : ob0 = none ∧ ∀ x ∈ es, x.n ≤ 1000000000000000 ∧ x.l ∈ cs := by
      rcases rg0 with ⟨rfl, _, _⟩ | ⟨_, _, e, _⟩
      · refine ⟨rfl, fun x hx => ⟨(he x hx).1, ?_⟩⟩
        rcases (he x hx).2 with k | ⟨_, _, e, _⟩
        · exact k
        · cases e
      · cases e
    have H1 : OF w0 w ((g, 29, bkv AL nL cL AM nM cM z) :: (oL.toList ++ (oM.toList ++ ((some (g1, 5, bv X) : Option Blk).toList ++ R)))) cs := H
    refine call_of (keep_c (ob := some (g1, 5, bv X)) (f := f1) (X := X) qL qM hes hnM (by omega) hn hc (by omega) (by omega) (by omega) H1 (Or.inr ⟨_, rfl, rfl, hlA⟩)) ?_
    rintro e w1 ⟨rfl, AL', nL', cL', AM', nM', cM', oL', oM', ob', es4, X', cs', kk, m, H2, qL', qM', hes', hnM', rg', out, hp, hk, hsub, hx4, hgrow⟩
    have hz4 : 100 * (nL' : Int) ≤ z + n + 400 ∧ nL' ≤ 40000 := by
      rcases hgrow with rfl | ⟨h4, hzz⟩
      · rw [List.append_nil] at hes'
        omega
      · rw [List.length_append, h4] at hes'
        omega
    rcases rg' with ⟨_, e, _⟩ | ⟨g3, rfl, e, hl'⟩
    · cases e
    injection e with e
    injection e with e1 e2 e3
    subst e1
    refine ⟨rfl, AL', nL', cL', AM', nM', cM', oL', oM', _, es ++ es4, z + n + 400, cs', f2, X', H2, qL', qM', hes', hnM', Or.inr ⟨_, rfl, rfl, by rw [out.1]; exact hlB⟩, fun x hx => ?_, hz4.1, hz4.2, by omega⟩
    rcases List.mem_append.1 hx with hx | hx
    · exact ⟨(hcs x hx).1, Or.inl (hsub (hcs x hx).2)⟩
    · obtain ⟨hxn, hx⟩ := hx4 x hx
      refine ⟨by omega, hx.imp id fun ⟨x1, x2, x3⟩ => ⟨_, f1, rfl, x1, ?_, by rw [x3]; exact hp.mono x2⟩⟩
      unfold Dis at hd ⊢
      omega
/-- The second one goes into the book. -/
theorem keep_second {n : Nat} {B : Option Addr} {d : Nat} {Zb : Int} (h : Pend w0 w g R Zb B d) (hn : n ≤ d) (hc : d ≤ 9223372036854775807) (hn2 : n ≤ 1000000000) (hZ : Zb ≤ 1000000000000000000) :
    Calls Try.prog 10 #[.pointer (some ⟨g, 0, none⟩), .slice B n d] w (RetP w0 g R (Zb + 2000000000) none 0) := by
  obtain ⟨AL, nL, cL, AM, nM, cM, oL, oM, ob, es, z, cs, f, X, H, qL, qM, hes, hnM, rg, he, hz1, hz2, hz3⟩ := h
  refine call_of (keep_c qL qM hes hnM (by omega) hn hc (by omega) (by omega) (by omega) H rg) ?_
  rintro e w1 ⟨rfl, AL', nL', cL', AM', nM', cM', oL', oM', ob2, es4, X', cs', kk, m, H3, qL', qM', hes', hnM', rg', out, hp, hk, hsub, hx4, hgrow⟩
  have hz4 : 100 * (nL' : Int) ≤ z + n + 400 ∧ nL' ≤ 40000 := by
    rcases hgrow with rfl | ⟨h4, hzz⟩
    · rw [List.append_nil] at hes'
      omega
    · rw [List.length_append, h4] at hes'
      omega
  obtain ⟨E, hE, hin⟩ := split_ents (fun x => x.A = B ∧ x.n ≤ kk ∧ x.m = m) es4 fun x hx => (hx4 x hx).2
  obtain ⟨E', hE', hin'⟩ := split_ents (cs' := cs') (fun x => ∃ g0 fa, ob = some (g0, 5, bv X) ∧ x.A = some ⟨g0, fa, none⟩ ∧ Dis fa x.n f d ∧ Pt x.m fa x.n X) es fun x hx => (he x hx).2.imp (fun h => hsub h) id
  have key : OF w0 w1 ((g, 29, bkv AL' nL' cL' AM' nM' cM' (z + n + 400)) :: (oL'.toList ++ (oM'.toList ++ R))) ((E.map Ent.l ++ E'.map Ent.l) ++ cs') := by
    have H4 := H3.perm (mv3 _ _ _ _ _)
    rcases rg with ⟨rfl, rfl, rfl⟩ | ⟨g0, rfl, rfl, hl⟩
    · refine H4.iceO rg' fun y hy => ?_
      rcases List.mem_append.1 hy with hy | hy
      · obtain ⟨x, hx, rfl⟩ := List.mem_map.1 hy
        obtain ⟨x1, x2, x3⟩ := hE x hx
        refine ⟨?_, x1, by show x.n ≤ 0; omega⟩
        show By w1 x.A x.n (pt x.m x.n)
        rw [x1, x3]
        exact rg'.pt H4.own (by omega) x2 hp
      · obtain ⟨x, hx, rfl⟩ := List.mem_map.1 hy
        obtain ⟨_, _, e, _⟩ := hE' x hx
        cases e
    · rcases rg' with ⟨_, e, _⟩ | ⟨g3, rfl, e, hl'⟩
      · cases e
      injection e with e
      injection e with e1 e2 e3
      subst e1
      refine OF.ice H4 fun y hy => ?_
      rcases List.mem_append.1 hy with hy | hy
      · obtain ⟨x, hx, rfl⟩ := List.mem_map.1 hy
        obtain ⟨x1, x2, x3⟩ := hE x hx
        refine ⟨?_, fun _ => ⟨f, x1⟩⟩
        show By w1 x.A x.n (pt x.m x.n)
        rw [x1, x3]
        exact bk_sub (H4.own.bk 0 rfl) (pt_len _ _) fun j hj => by rw [hp j (by omega), pt_get m hj]
      · obtain ⟨x, hx, rfl⟩ := List.mem_map.1 hy
        obtain ⟨g4, fa, e, x1, x2, x3⟩ := hE' x hx
        simp only [Option.some.injEq, Prod.mk.injEq] at e
        obtain ⟨rfl, _⟩ := e
        refine ⟨?_, fun _ => ⟨fa, x1⟩⟩
        show By w1 x.A x.n (pt x.m x.n)
        rw [x1]
        refine bk_sub (H4.own.bk 0 rfl) (pt_len _ _) fun j hj => ?_
        have h5 : X'[fa + j]? = X[fa + j]? := by
          unfold Dis at x2
          by_cases hd : d = 0
          · exact out.2 _ (by omega)
          · exact out.2 _ (by omega)
        rw [h5, x3 j hj, pt_get x.m hj]
  refine ⟨rfl, AL', nL', cL', AM', nM', cM', oL', oM', none, es ++ es4, z + n + 400, _, 0, [], key, qL', qM', hes', hnM', Or.inl ⟨rfl, rfl, rfl⟩, fun x hx => ?_, hz4.1, hz4.2, by omega⟩
  rcases List.mem_append.1 hx with hx | hx
  · refine ⟨(he x hx).1, Or.inl ?_⟩
    rcases List.mem_append.1 (hin' x hx) with h | h
    · exact List.mem_append.2 (Or.inl (List.mem_append.2 (Or.inr h)))
    · exact List.mem_append.2 (Or.inr h)
  · refine ⟨by have := (hx4 x hx).1; omega, Or.inl ?_⟩
    rcases List.mem_append.1 (hin x hx) with h | h
    · exact List.mem_append.2 (Or.inl (List.mem_append.2 (Or.inl h)))
    · exact List.mem_append.2 (Or.inr h)
/-- One list goes into the book. -/
theorem keep_one {A : Option Addr} {n c : Nat} {Zb : Int} (h : Hold w0 w g R Zb A c none 0) (hn : n ≤ c) (hn2 : n ≤ 1000000000) (hZ : Zb ≤ 1000000000000000000) :
    Calls Try.prog 10 #[.pointer (some ⟨g, 0, none⟩), .slice A n c] w (RetP w0 g R (Zb + 2000000000) none 0) := keep_firstH h hn hn2 hZ
theorem Hold.mapR {b : World} {R' : List Blk} {A : Option Addr} {c : Nat} {B : Option Addr} {d : Nat} {Zb : Int} (h : Hold w0 w g R Zb A c B d) (f : ∀ (Q : List Blk) (cs : List Lst), OF w0 w (Q ++ R) cs → OF w0 b (Q ++ R') cs) : Hold w0 b g R' Zb A c B d := by
  refine ⟨h.1, ?_⟩
  rcases h.2 with ⟨ob, f1, X, ob', f', Y, H, r1, r2⟩ | ⟨gg, f1, f', X, H, r⟩
  · refine Or.inl ⟨ob, f1, X, ob', f', Y, H.mapR fun Q cs H => ?_, r1, r2⟩
    have := f (Q ++ (ob.toList ++ ob'.toList)) cs (by simpa using H)
    simpa using this
  · refine Or.inr ⟨gg, f1, f', X, H.mapR fun Q cs H => ?_, r⟩
    have := f (Q ++ [(gg, 5, bv X)]) cs (by simpa using H)
    simpa using this
theorem bk_whole {Zb : Int} (h : BkAt w0 w g R Zb) : Calls Try.prog 13 #[.pointer (some ⟨g, 0, none⟩)] w (YesB w) := by
  obtain ⟨AL, nL, cL, AM, nM, cM, oL, oM, ob, es, z, cs, f, X, H, qL, qM, hes, hnM, rg, he, hz1, hz2, hz3⟩ := h
  obtain rfl : ob = none := by
    rcases rg with ⟨rfl, _, _⟩ | ⟨_, _, e, _⟩
    · rfl
    · cases e
  refine whole_c (z := z) (R := R) qL qM hes hnM (by omega) (fun x hx => ?_) H
  refine ⟨?_, (he x hx).1⟩
  rcases (he x hx).2 with k | ⟨_, _, e, _⟩
  · exact k
  · cases e
end
end Go.Proofs.YtchdcdmdbjkihaaS
