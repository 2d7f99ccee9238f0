/- Package weftlaw3: the book beside other memory of one's own.
   Conditions: none. -/
import Derived.Test.YtchdcdmdbjkihaaSKeepC
namespace Go.Proofs.YtchdcdmdbjkihaaS
open Go Go.RowKit Go.Proofs Go.Proofs.YtchdcdmdbjkihaaX
set_option maxRecDepth 100000
set_option linter.unusedVariables false
set_option linter.unusedSectionVars false
set_option linter.unusedSimpArgs false
section
variable {w0 a b w : World} {R R' L : List Blk} {g : Nat} {Zb : Int} {B : Option Addr} {d : Nat}
theorem Pend.own (h : Pend w0 a g R Zb B d) : Own w0 a R := by
  obtain ⟨AL, nL, cL, AM, nM, cM, oL, oM, ob, es, z, cs, f', X, H, r⟩ := h
  exact (OF.less (L := ob.toList) (OF.less (L := oM.toList) (OF.less (L := oL.toList) H.tail))).own
theorem Pend.perm (h : Pend w0 a g R Zb B d) (p : R.Perm R') : Pend w0 a g R' Zb B d := h.mapR fun Q cs H => H.perm (p.append_left Q)
theorem Pend.less (h : Pend w0 a g (L ++ R) Zb B d) : Pend w0 a g R Zb B d := h.mapR fun Q cs H => OF.less (H.perm (List.perm_append_comm_assoc _ _ _))
theorem Pend.tail {p : Blk} (h : Pend w0 a g (p :: R) Zb B d) : Pend w0 a g R Zb B d := Pend.less (L := [p]) h
theorem Pend.join (h : Pend w0 a g R Zb B d) (k : Own a b L) : Pend w0 b g (L ++ R) Zb B d := h.mapR fun Q cs H => (H.join k).perm (List.perm_append_comm_assoc _ _ _)
theorem Pend.new (h : Pend w0 a g R Zb B d) (t : TypeId) (l : List Value) : Pend w0 (a.alloc (.cells l.toArray t)) g ((a.heap.size, t, l) :: R) Zb B d := h.mapR fun Q cs H => (H.new t l).perm List.perm_middle.symm
theorem Pend.over (h : Pend w0 a g R Zb B d) (k : Nat) {g' : Nat} {t : TypeId} {l l' : List Value} (hk : R[k]? = some (g', t, l)) (hb : But g' a b) (hn : Bk b g' t l') : Pend w0 b g (R.set k (g', t, l')) Zb B d := h.mapR fun Q cs H => by
  have := H.over (Q.length + k) (g := g') (t := t) (l := l) (by rw [List.getElem?_append_right (by omega), show Q.length + k - Q.length = k by omega]; exact hk) hb hn
  rwa [List.set_append_right _ _ (by omega), show Q.length + k - Q.length = k by omega] at this
theorem pend_set (k : Nat) {g' i : Nat} {t : TypeId} {l : List Value} {v : Value} {K : World → Prop} (h : Pend w0 a g R Zb B d) (hk : R[k]? = some (g', t, l)) (hi : i < l.length) (hn : ∀ w1, Pend w0 w1 g (R.set k (g', t, l.set i v)) Zb B d → K w1) :
    MayC a ⟨g', i, none⟩ ∧ Let (a.setCell ⟨g', i, none⟩ v) K :=
  ⟨(h.own.bk k hk).may hi, hn _ (h.over k hk (But.set a g' i v) ((h.own.bk k hk).set i v))⟩
theorem pend_setB (k : Nat) {g' i : Nat} {t : TypeId} {l : List Value} {v : Value} {K : World → Prop} (h : Pend w0 a g R Zb B d) (hk : R[k]? = some (g', t, l)) (hi : i < l.length) (hn : ∀ w1, Pend w0 w1 g (R.set k (g', t, l.set i v)) Zb B d → But g' a w1 → K w1) :
    MayC a ⟨g', i, none⟩ ∧ Let (a.setCell ⟨g', i, none⟩ v) K :=
  ⟨(h.own.bk k hk).may hi, hn _ (h.over k hk (But.set a g' i v) ((h.own.bk k hk).set i v)) (But.set a g' i v)⟩
theorem pend_new {t : TypeId} {l : List Value} {K : Nat → World → Prop} (h : Pend w0 a g R Zb B d) (hk : ∀ g' w1, Pend w0 w1 g ((g', t, l) :: R) Zb B d → Bel a w1 → K g' w1) : Let a.heap.size fun g' => Let (a.alloc (.cells l.toArray t)) (K g') :=
  hk _ _ (h.new t l) ((Bel.refl a).alloc _)
/-- A new record, written at once. -/
theorem pend_mk {t : TypeId} {n : Nat} (l : List Value) {vs : List Value} {K : Nat → World → Prop} (h : Pend w0 a g R Zb B d) (hl : l.length = n) (hv : vs.length = n)
    (hk : ∀ g' w1, Pend w0 w1 g ((g', t, vs) :: R) Zb B d → Bel a w1 → K g' w1) :
    Let a.heap.size fun g' => Let (a.alloc (.cells l.toArray t)) fun w2 => May w2 ⟨g', 0, none⟩ n ∧ Let (putCells w2 ⟨g', 0, none⟩ vs 0) (K g') := by
  have H := h.new t l
  have hp := Bk.put (t := t) (o := 0) vs (a.alloc (.cells l.toArray t)) l 0 (H.own.bk 0 rfl) (by omega)
  rw [Nat.add_zero] at hp
  refine ⟨(H.own.bk 0 rfl).mayN (by omega), ?_⟩
  refine hk _ _ ?_ (But.bel ((Bel.refl a).alloc _) (Nat.le_refl _) hp.2)
  have := H.over 0 rfl hp.2 hp.1
  rw [splice_all _ _ (by omega)] at this
  exact this
theorem Hold.own {A : Option Addr} {c : Nat} (h : Hold w0 a g R Zb A c B d) : Own w0 a R := by
  rcases h.2 with ⟨ob, f1, X, ob', f', Y, H, _⟩ | ⟨gg, f1, f', X, H, _⟩
  · exact (Pend.less (L := ob'.toList) (Pend.less (L := ob.toList) H)).own
  · exact H.tail.own
theorem Hold.call {A : Option Addr} {c : Nat} (h : Hold w0 a g R Zb A c B d) (k : Bel a b) : Hold w0 b g R Zb A c B d := h.mapR fun Q cs H => H.call k
/-- A new record, written at once. -/
theorem hold_mkB {A : Option Addr} {c : Nat} {t : TypeId} {n : Nat} (l : List Value) {vs : List Value} {K : Nat → World → Prop} (h : Hold w0 a g R Zb A c B d) (hl : l.length = n) (hv : vs.length = n)
    (hk : ∀ g' w1, Hold w0 w1 g ((g', t, vs) :: R) Zb A c B d → Bel a w1 → K g' w1) :
    Let a.heap.size fun g' => Let (a.alloc (.cells l.toArray t)) fun w2 => May w2 ⟨g', 0, none⟩ n ∧ Let (putCells w2 ⟨g', 0, none⟩ vs 0) (K g') := by
  have hb : Bk (a.alloc (.cells l.toArray t)) a.heap.size t l := Bk.new a t l
  have hp := Bk.put (t := t) (o := 0) vs (a.alloc (.cells l.toArray t)) l 0 hb (by omega)
  rw [Nat.add_zero] at hp
  refine ⟨hb.mayN (by omega), ?_⟩
  refine hk _ _ (h.mapR fun Q cs H => ?_) (But.bel ((Bel.refl a).alloc _) (Nat.le_refl _) hp.2)
  have h1 := (H.new t l).over 0 rfl hp.2 hp.1
  rw [splice_all _ _ (by omega)] at h1
  exact h1.perm List.perm_middle.symm
/-- A new record, written at once. -/
theorem hold_mk {A : Option Addr} {c : Nat} {t : TypeId} {n : Nat} (l : List Value) {vs : List Value} {K : Nat → World → Prop} (h : Hold w0 a g R Zb A c B d) (hl : l.length = n) (hv : vs.length = n)
    (hk : ∀ g' w1, Hold w0 w1 g ((g', t, vs) :: R) Zb A c B d → K g' w1) :
    Let a.heap.size fun g' => Let (a.alloc (.cells l.toArray t)) fun w2 => May w2 ⟨g', 0, none⟩ n ∧ Let (putCells w2 ⟨g', 0, none⟩ vs 0) (K g') := by
  have hb : Bk (a.alloc (.cells l.toArray t)) a.heap.size t l := Bk.new a t l
  have hp := Bk.put (t := t) (o := 0) vs (a.alloc (.cells l.toArray t)) l 0 hb (by omega)
  rw [Nat.add_zero] at hp
  refine ⟨hb.mayN (by omega), ?_⟩
  refine hk _ _ (h.mapR fun Q cs H => ?_)
  have h1 := (H.new t l).over 0 rfl hp.2 hp.1
  rw [splice_all _ _ (by omega)] at h1
  exact h1.perm List.perm_middle.symm
end
end Go.Proofs.YtchdcdmdbjkihaaS
